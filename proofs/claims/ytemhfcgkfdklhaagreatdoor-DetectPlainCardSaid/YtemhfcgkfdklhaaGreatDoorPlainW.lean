/- DetectPlain, walked. -/
import Derived.Test.YtemhfcgkfdklhaaGreatDoorDetP
import Derived.Lib.ConvBytes
import Derived.Deep.RegionLaw
import Derived.SliceStrings
set_option linter.all false
namespace Go.Proofs.YtemhfcgkfdklhaaGreatDoor.Look
open Go Go.RowKit Go.Shelf Go.Proofs Go.Proofs.YtemhfcgkfdklhaaGreatDoor.Rd

/-! ### plain words: ASCII is of both codings -/
def Asc (l : List Int) : Prop := ∀ x ∈ l, 32 ≤ x ∧ x ≤ 126
theorem low_start : ∀ i : Nat, i < 127 → sizeU (i : Int) = 1 ∧ startU (i : Int) = (i : Int) ∧ lenU (i : Int) = 1 := by decide +kernel
theorem nextU_asc {c : Int} {t : List Int} (h : 32 ≤ c ∧ c ≤ 126) : nextU (c :: t) = some (c, 1) := by
  obtain ⟨hs, h1, h2⟩ := low_start c.toNat (by omega)
  rw [show ((c.toNat : Nat) : Int) = c by omega] at hs h1 h2
  rw [nextU_cons, hs, if_neg (by omega), h1]
  show (match restU c (t.take 0) with | none => none | some r => if lenU r = 1 then some (r, 1) else none) = _
  rw [List.take_zero]
  show (if lenU c = 1 then some (c, 1) else none) = _
  rw [if_pos h2]
theorem okF_asc : ∀ (f : Nat) (l : List Int), Asc l → okF f l = true
  | 0, _, _ => rfl
  | _ + 1, [], _ => rfl
  | f + 1, c :: t, h => by
    unfold okF
    rw [nextU_asc (h c List.mem_cons_self)]
    exact okF_asc f t fun x hx => h x (List.mem_cons_of_mem _ hx)
theorem uV_asc {l : List Int} (h : Asc l) : uV l = true := okF_asc _ l h
theorem next_asc {b : List Int} {s : RS} {c : Int} {t : List Int} (hd : b.drop s.pos = c :: t) (hc : 32 ≤ c ∧ c ≤ 126) (h0 : s.g0 = 1) (h1 : s.g1 = 2) (hm : s.marks = []) :
    ∃ s', nextV markV T0 b s = .ok s' ∧ s'.g0 = 1 ∧ s'.g1 = 2 ∧ s'.marks = [] := by
  have hmk : markV c = false := by
    have := mark_low c.toNat (by omega)
    rwa [show ((c.toNat : Nat) : Int) = c by omega] at this
  have hput : ∀ n, (putS markV s c n).g0 = 1 ∧ (putS markV s c n).g1 = 2 ∧ (putS markV s c n).marks = [] := by
    intro n
    unfold putS
    rw [if_neg (by rw [hmk]; decide)]
    exact ⟨h0, h1, rfl⟩
  rw [nextV_cons hd, if_neg (by omega)]
  by_cases h32 : c = 32
  · subst h32
    rw [show plainV 32 = some 32 by decide]
    simp only
    rw [if_neg (by rw [hm]; simp)]
    exact ⟨_, rfl, hput 1⟩
  · have hp : plainV c = none := by
      unfold plainV
      rw [if_neg h32, if_neg (by omega), if_neg (by omega), if_neg (by omega), if_neg (by omega)]
    have hset : setV s c = 1 := by unfold setV; rw [if_neg (by omega)]; exact h0
    have hcode : codeV (c :: t) s = some (1, c, 1) := by
      have hsd : sideV c = 0 := by unfold sideV; rw [if_neg (by omega)]
      have hg : ((c :: t).take 1).all (grV (sideV c)) = true := by
        rw [hsd]
        simp [grV]
        omega
      rw [codeV_cons, hset, show sizeV 1 = 1 by decide, if_pos ⟨by decide, by simp, hg⟩]
      show some ((1 : Int), (0 * 256 + c % 128 : Int), 1) = _
      rw [show (0 * 256 + c % 128 : Int) = c by omega]
    rw [hp]
    simp only [hcode]
    rw [T0_one c (by omega)]
    exact ⟨_, rfl, hput 1⟩
theorem run_asc {b : List Int} (h : Asc b) : ∀ (n : Nat) (s : RS), b.length - s.pos = n → s.g0 = 1 → s.g1 = 2 → s.marks = [] → ∃ s', run markV T0 b s = .ok s' ∧ s'.g0 = 1 ∧ s'.g1 = 2 ∧ s'.marks = []
  | n, s, hn, h0, h1, hm => by
    by_cases hl : s.pos < b.length
    · have hd : b.drop s.pos = b[s.pos] :: b.drop (s.pos + 1) := List.drop_eq_getElem_cons hl
      obtain ⟨s1, hx, k0, k1, k2⟩ := next_asc hd (h _ (List.getElem_mem hl)) h0 h1 hm
      have := nextV_pos hl hx
      rw [run_step hl hx]
      exact run_asc h (b.length - s1.pos) s1 rfl k0 k1 k2
    · rw [run_end (by omega)]
      exact ⟨s, rfl, h0, h1, hm⟩
termination_by n => n
decreasing_by omega
theorem mV_asc {l : List Int} (h : Asc l) : mV l = true := by
  obtain ⟨s', hr, h0, h1, h2⟩ := run_asc h _ ⟨0, 1, 2, [], [], 0⟩ rfl rfl rfl rfl
  unfold mV textV decodeV
  rw [if_pos (by decide), hr]
  simp only [endV]
  rw [if_neg (by rw [h2]; simp)]
  simp only
  rw [if_neg (by rw [h0, h1]; simp)]
theorem evM_asc {ls : List (List Int)} (h : ∀ l ∈ ls, Asc l) : evM (ls.map fld1) = true := by
  unfold evM
  rw [List.all_eq_true]
  intro f hf
  obtain ⟨l, hl, rfl⟩ := List.mem_map.1 hf
  rw [texts_one]
  simp [mV_asc (h l hl)]
theorem evU_asc {ls : List (List Int)} (h : ∀ l ∈ ls, Asc l) : evU (ls.map fld1) = true := by
  unfold evU
  rw [List.all_eq_true]
  intro f hf
  obtain ⟨l, hl, rfl⟩ := List.mem_map.1 hf
  rw [texts_one]
  simp [uV_asc (h l hl)]

/-! ### texts of our own -/
def bytesL (s : ByteArray) : List Int := s.data.toList.map fun b => (b.toNat : Int)
theorem bytesL_len (s : ByteArray) : (bytesL s).length = s.size := by simp [bytesL]
theorem bytesL_asc {s : ByteArray} (h : ∀ i, i < s.size → 32 ≤ byteS s i ∧ byteS s i ≤ 126) : Asc (bytesL s) := by
  intro x hx
  obtain ⟨i, hi, rfl⟩ := List.getElem_of_mem hx
  have hi' : i < s.size := by rw [bytesL_len] at hi; exact hi
  have := h i hi'
  rw [byteS_at hi'] at this
  have e : (bytesL s)[i] = ((s[i]'hi').toNat : Int) := by simp [bytesL]; rfl
  rw [e]; exact this
/-- A text of a row of its own, behind the box B. -/
def RelP (B : Nat) (w : World) : Rel := fun vt vs f => vs = .slice none 0 0 ∧ f.subs = [] ∧ ∃ (g c : Nat) (cs : Array Value) (fz : Nat × Nat), vt = .slice (some ⟨g, 0, none⟩) f.text.length c ∧ f.text.length ≤ c ∧ c ≤ 9223372036854775807 ∧ B < g ∧ w.heap[g]? = some (.cells cs 5 fz) ∧ ∀ (j : Nat) (x : Int), f.text[j]? = some x → cs[j]? = some (Value.int .u8 x)
theorem RelP.relV {B : Nat} {w : World} {vt vs : Value} {f : Fld} (h : RelP B w vt vs f) : RelV w vt vs f := by
  obtain ⟨rfl, hs, g, c, cs, fz, rfl, h1, h2, h3, h4, h5⟩ := h
  refine ⟨⟨_, _, rfl, fun hne => ⟨g, 0, rfl, (Array.getElem?_eq_some_iff.1 h4).1, fun j x hj => ?_⟩, h1, h2, fun e => by cases e⟩, by rw [hs]; exact ⟨none, 0, rfl, fun h => absurd rfl h⟩⟩
  unfold World.cell?
  simp only [h4]
  rw [Nat.zero_add]
  simpa using h5 j x hj
theorem RelP.of {B : Nat} {w w' : World} {vt vs : Value} {f : Fld} (h : RelP B w vt vs f) (hb : ∀ g cs fz, B < g → w.heap[g]? = some (.cells cs 5 fz) → w'.heap[g]? = w.heap[g]?) : RelP B w' vt vs f := by
  obtain ⟨h0, hs, g, c, cs, fz, h6, h1, h2, h3, h4, h5⟩ := h
  exact ⟨h0, hs, g, c, cs, fz, h6, h1, h2, h3, (hb g cs fz h3 h4).trans h4, h5⟩
theorem RelP.below {B : Nat} {w w' : World} {vt vs : Value} {f : Fld} (h : RelP B w vt vs f) (hb : Below w.heap.size w w') : RelP B w' vt vs f := h.of fun g _ _ _ hg => hb.block g (Array.getElem?_eq_some_iff.1 hg).1
theorem run_append_fields_g {W : Rel} {w : World} (ty : TypeId) (base : Nat) (v : Value) (fs : List Fld) (hown : OwnF W w base v fs) (vx : Value) (gs : List Fld) (hsrc : SrcF W w vx gs) (hlen : fs.length + gs.length ≤ 1000000) (hbase : base ≤ w.heap.size) :
    ∃ v' w', (Builtin.append_ #[34, 34] ty #[v, vx]).run Tryz.prog w = .ok v' w' ∧ OwnF W w' base v' (fs ++ gs) ∧ w.grownBy w' v.ownBlock := by
  obtain ⟨xs, h1, h2⟩ := hown
  obtain ⟨ys, k1, k2⟩ := hsrc
  obtain ⟨ie, hi, hz, hsz, hby⟩ := info_parts iFld
  rcases k2 with ⟨ad, c, rfl, hc⟩ | ⟨rfl, rfl⟩
  · obtain ⟨v', w', hr, j2, j3, _, _⟩ := run_append_own_at (P := Tryz.prog) w base 34 ty 48 ie _ 5 72 Tryz.underlying34 hi hz hsz hby rfl (by decide) v fs.length xs h1 ad gs.length c ys k1.1 hc k1.2.1 (by unfold maxLen; omega) (by omega) hbase
    exact ⟨v', w', hr, ⟨xs ++ ys, by rw [List.length_append]; exact j2, h2.append k1⟩, j3⟩
  · have hrun := run_append_owned_none (P := Tryz.prog) (w := w) base 34 ty 48 ie 5 Tryz.underlying34 hi v fs.length xs h1
    exact ⟨v, w, hrun, by rw [List.append_nil]; exact ⟨xs, h1, h2⟩, rfl, rfl, rfl, Nat.le_refl _, fun _ _ _ => rfl⟩
theorem OwnF.formP {R : Rel} {w : World} {base : Nat} {v : Value} {fs : List Fld} (h : OwnF R w base v fs) : ∃ a c, v = .slice a fs.length c := by
  obtain ⟨xs, h1, _⟩ := h
  rcases h1.2 with ⟨rfl, h0⟩ | ⟨g, cap, cur, rfl, _⟩
  · exact ⟨Option.none, 0, by rw [h0]⟩
  · exact ⟨_, _, rfl⟩
theorem step_append_field {ops : Array Oper} {o : Oper} {a : Act} {K : Act → World → Prop} {Q : Exit → Act → World → Prop} {E : Prop} {w : World} (hgd : o.guard = none) (s x : Operand)
    (ho : o.op = .call { callee := .builtin .append, args := #[s, x], argTypes := #[34, 34] }) {R : Rel} (base : Nat) (v : Value) (fs : List Fld) (hs : a.eval s = v) (hown : OwnF R w base v fs) (vx : Value) (f : Fld) (hx : a.eval x = vx) (hsrc : SrcF R w vx [f])
    (n : Nat) (hn : fs.length + 1 = n) (hlen : n ≤ 1000000) (hbase : base ≤ w.heap.size)
    (h : ∀ a' c' w', OwnF R w' base (.slice a' n c') (fs ++ [f]) → w.grownBy w' v.ownBlock → K (a.put o.dst (.slice a' n c')) w') :
    if Region.wanted o (yielded ops a.tmps) = true then Oper.wp Tryz.prog o a w K Q else E := by
  have hw : Region.wanted o (yielded ops a.tmps) = true := by simp [Region.wanted, hgd]
  rw [if_pos hw]
  obtain ⟨v', w', hr, h2, h3⟩ := run_append_fields_g o.type base v fs hown vx [f] hsrc (by simp; omega) hbase
  obtain ⟨a', c', rfl⟩ := h2.formP
  rw [List.length_append, show fs.length + [f].length = n from hn] at h2 hr
  unfold Oper.wp
  simp [execOp, ho, resolve, invoke, builtin, hs, hx, hr, Result.andThen]
  exact h a' c' w' h2 h3
/-- One field of our own, built. -/
theorem src_oneP (R : Rel) (w : World) (l : List Int) (vt : Value) (ht : vt.oneCell' = true) (h : R vt (.slice none 0 0) (fld1 l)) : SrcF R (w.alloc (.cells #[.string ⟨#[48, 48, 49]⟩, vt, .int .u8 0, .int .u8 0, .slice none 0 0] 48)) (.slice (some ⟨w.heap.size, 0, none⟩) 1 1) [fld1 l] := by
  refine ⟨_, FC.one (f := fld1 l) 0 0 ht rfl h, .inl ⟨_, _, rfl, fun j u hj => ?_⟩⟩
  rw [Addr.add_lit, Nat.zero_add, five]
  simpa [fld1, tag1] using hj
/-- The converted text. -/
theorem conv_relP (B : Nat) (w : World) (s : ByteArray) (hB : B < w.heap.size) (hs : s.size ≤ 1000000) : RelP B (Lib.bytesWorld w 5 s) (.slice (some ⟨w.heap.size, 0, none⟩) s.size (grownCap w s.size 0 5)) (.slice none 0 0) (fld1 (bytesL s)) := by
  refine ⟨rfl, rfl, w.heap.size, _, _, _, by show _ = Value.slice _ (bytesL s).length _; rw [bytesL_len], ?_, ?_, hB, Lib.bytesWorld_at_new w _ s, fun j x hj => ?_⟩
  · show (bytesL s).length ≤ _
    rw [bytesL_len]
    exact grownCap_ge _ _ _ _
  · exact grownCap_le_maxLen _ _ _ _ (by unfold maxLen; omega)
  · have hj2 : (bytesL s)[j]? = some x := hj
    have hl : j < s.size := by
      have := (List.getElem?_eq_some_iff.1 hj2).1
      rwa [bytesL_len] at this
    unfold Lib.bytesCells
    rw [Array.getElem?_append_left (by simpa using hl)]
    simp [bytesL] at hj2 ⊢
    obtain ⟨b, hb, rfl⟩ := hj2
    exact ⟨b, by simpa using hb, rfl⟩
end Go.Proofs.YtemhfcgkfdklhaaGreatDoor.Look
set_option linter.all false
namespace Go.Proofs.YtemhfcgkfdklhaaGreatDoor.Look
open Go Go.RowKit Go.Shelf Go.Proofs Go.Proofs.YtemhfcgkfdklhaaGreatDoor.Rd

/-- A row of strings that came in. -/
def StrsAt (w : World) (v : Value) (ss : List ByteArray) : Prop := ∃ a c, v = .slice a ss.length c ∧ (ss ≠ [] → ∃ b off, a = some ⟨b, off, none⟩ ∧ b < w.heap.size ∧ ∀ k s, ss[k]? = some s → w.cell? ⟨b, off + k, none⟩ = some (.string s))
/-- What stands in the rounds. -/
def RowsP (w : World) (B : Nat) (a : Option Addr) (k c : Nat) (ss : List ByteArray) (wr : World) : Prop :=
  Below B w wr ∧ OwnF (RelP B wr) wr (B + 1) (.slice a k c) (((ss.take k).map bytesL).map fld1) ∧ ∀ l ∈ (ss.take k).map bytesL, Asc l ∧ l.length ≤ 1000000

theorem below_bytes (w : World) (s : ByteArray) : Below w.heap.size w (Lib.bytesWorld w.drew 5 s) := by
  have h1 : Below w.heap.size w w.drew := (Below.refl _ w).drew
  have hsz := Lib.bytesWorld_size w.drew 5 s
  refine h1.trans ⟨?_, ?_, ?_, by rw [hsz]; exact Nat.le_succ _, fun k hk => Lib.bytesWorld_at_old w.drew _ s k hk⟩ <;> (simp [Lib.bytesWorld, World.freeze]; try rfl)
theorem OwnF.putP {R : Rel} {w : World} {base : Nat} {v : Value} {fs : List Fld} (h : OwnF R w base v fs) {a : Addr} (ha : a.block < base) (u : Value) : OwnF R (w.setCell a u) base v fs := by
  obtain ⟨xs, h1, h2⟩ := h
  exact ⟨xs, ownsRow_setCell_below h1 ha u, h2⟩
theorem OwnF.field {R : Rel} {w : World} {base g : Nat} {v : Value} {fs : List Fld} (h : OwnF R w base v fs) (hg : some g = v.ownBlock) : base ≤ g ∧ ∃ cur, w.heap[g]? = some (.cells cur 48) := by
  obtain ⟨xs, h1, h2⟩ := h
  rcases h1.2 with ⟨rfl, h0⟩ | ⟨g', cap, cur, rfl, hb, hh, _⟩
  · cases hg
  · injection hg with hg
    simp at hg
    subst hg
    exact ⟨hb, cur, hh⟩
theorem RelP.append {B : Nat} {w w' : World} {vt vs v : Value} {f : Fld} {o : Obj} {R : Rel} {base : Nat} {fs : List Fld} (h : RelP B w vt vs f) (ho : OwnF R (w.alloc o) base v fs) (hg : (w.alloc o).grownBy w' v.ownBlock) : RelP B w' vt vs f := by
  have h1 : RelP B (w.alloc o) vt vs f := h.below ((Below.refl _ w).alloc (Nat.le_refl _) o)
  refine h1.of fun g cs fz hB hh => hg.block g (Array.getElem?_eq_some_iff.1 hh).1 fun e => ?_
  obtain ⟨_, cur, k⟩ := ho.field e
  have := hh.symm.trans k
  simp at this
theorem RelP.put {B : Nat} {w : World} {vt vs : Value} {f : Fld} (h : RelP B w vt vs f) (j : Nat) (u : Value) : RelP B (w.setCell ⟨B, j, none⟩ u) vt vs f := h.of fun g cs fz hB hh => Below.heap_setCell _ _ _ _ (by simp; omega)
theorem rows_own {w wr : World} {a : Option Addr} {k c : Nat} {ss : List ByteArray} (s : ByteArray) (h : RowsP w w.heap.size a k c ss wr) (o : Obj) : OwnF (RelP w.heap.size (Lib.bytesWorld wr.drew 5 s)) ((Lib.bytesWorld wr.drew 5 s).alloc o) (w.heap.size + 1) (.slice a k c) (((ss.take k).map bytesL).map fld1) :=
  ((h.2.1.imp fun _ _ _ _ r => r.below (below_bytes wr s)).kept (below_bytes wr s)).kept ((Below.refl _ _).alloc (Nat.le_refl _) o)
theorem rows_next {w wr w3 : World} {a a3 : Option Addr} {k c c3 : Nat} {ss : List ByteArray} {s : ByteArray} {o : Obj} (h : RowsP w w.heap.size a k c ss wr) (hB : w.heap.size < wr.heap.size) (hst : ss.take (k + 1) = ss.take k ++ [s]) (hs : Asc (bytesL s)) (hsl : s.size ≤ 1000000)
    (ho : OwnF (RelP w.heap.size (Lib.bytesWorld wr.drew 5 s)) w3 (w.heap.size + 1) (.slice a3 (k + 1) c3) (((ss.take k).map bytesL).map fld1 ++ [fld1 (bytesL s)])) (hg : ((Lib.bytesWorld wr.drew 5 s).alloc o).grownBy w3 (Value.slice a k c).ownBlock) :
    RowsP w w.heap.size a3 (k + 1) c3 ss (w3.setCell ⟨w.heap.size, 1, none⟩ (.slice a3 (k + 1) c3)) := by
  have hown := rows_own s h o
  have hX := (below_bytes wr s).alloc (below_bytes wr s).size o
  have hsz := hX.size
  have hb3 : Below w.heap.size ((Lib.bytesWorld wr.drew 5 s).alloc o) w3 := (Below.refl _ _).grown hg (by omega) fun g e => by have := (hown.field e.symm).1; omega
  refine ⟨((h.1.trans (hX.mono h.1.size)).trans hb3).setCell (p := ⟨w.heap.size, 1, none⟩) (Nat.le_refl _) _, ?_, ?_⟩
  · rw [hst, List.map_append, List.map_append]
    exact (ho.imp fun _ _ _ _ r => (r.append hown hg).put 1 _).putP (Nat.lt_succ_self _) _
  · rw [hst, List.map_append]
    intro l hl
    rcases List.mem_append.1 hl with hl | hl
    · exact h.2.2 l hl
    · obtain rfl := List.mem_singleton.1 hl
      exact ⟨hs, by rw [bytesL_len]; exact hsl⟩

set_option maxHeartbeats 8000000 in
set_option maxRecDepth 100000 in
theorem plainLaw (w : World) (hT : Tabs w) (lead : ByteArray) (tv : Value) (ss : List ByteArray) (h : StrsAt w tv ss) :
    Calls Tryz.prog 6 #[tv, .string lead] w fun e w' => e = .returned (.bool true) ∧ Below w.heap.size w w' := by
  have HA : Hid (∀ X, Below w.heap.size w X → Calls Tryz.prog 13 #[] X fun e w' => e = .returned (.bool true) ∧ Below X.heap.size X w') := fun X hX => answers24 X (hT.below hX)
  have hSd := fun X => cSoundR lead X
  obtain ⟨ta, tc, rfl, hx⟩ := h
  obtain ⟨M, hM⟩ : ∃ M, M = ss.length := ⟨_, rfl⟩
  rw [← hM]
  by_cases hM20 : 20 < M
  · have hbz : (20 : Int) < (M : Int) := by omega
    have hbd : decide ((20 : Int) < (M : Int)) = true := decide_eq_true hbz
    clear hx hM hT hSd
    go_enter Tryz.func6, Tryz.ntmps6
    go_wp2_with (go_at_call 13; refine (HA.out _ (Below.refl _ _)).mono ?_; rintro e w3 ⟨rfl, hb3⟩)
    go_ret
    exact ⟨rfl, hb3⟩
  · have hbz : ¬ (20 : Int) < (M : Int) := by omega
    have hbd : decide ((20 : Int) < (M : Int)) = false := decide_eq_false hbz
    cases hsd : soundV lead with
    | false =>
      rw [hsd] at hSd
      have HSd := Lib.hid hSd
      clear hx hM hT hSd hsd
      go_enter Tryz.func6, Tryz.ntmps6
      go_wp2_with (first
        | (go_at_call 13; refine (HA.out _ (Below.refl _ _)).mono ?_; rintro e w3 ⟨rfl, hb3⟩)
        | (go_at_call 12; refine (HSd.out _).mono ?_; rintro _ w9 ⟨rfl, rfl⟩))
      go_ret
      exact ⟨rfl, hb3⟩
    | true =>
      rw [hsd] at hSd
      have HSd := Lib.hid hSd
      obtain ⟨hcd, hsz⟩ := sound_coding hsd
      obtain ⟨t, ht⟩ : ∃ r, r = codingV lead := ⟨_, rfl⟩
      have HCd : Hid (∀ X, Calls Tryz.prog 16 #[.string lead] X fun e w' => e = .returned (.int .i64 t) ∧ X = w') := fun X => by
        rw [ht]; exact cCodingR lead X
      have HX : Aside (M = ss.length ∧ (ss ≠ [] → ∃ b off, ta = some ⟨b, off, none⟩ ∧ b < w.heap.size ∧ ∀ k s, ss[k]? = some s → w.cell? ⟨b, off + k, none⟩ = some (.string s))) := ⟨hM, hx⟩
      have HTL : Aside (Tabs w ∧ lead.size = 24 ∧ t = codingV lead) := ⟨hT, hsz, ht⟩
      rw [← ht] at hcd
      obtain ⟨x0, x1, xf0, xf1, xl⟩ := box2 w (.string lead) (.slice none 0 0) 36
      have H0 : Aside (RowsP w w.heap.size none 0 0 ss (w.alloc (.cells #[.string lead, .slice none 0 0] 36))) := ⟨(Below.refl _ w).alloc (Nat.le_refl _) _, OwnF.none _ _ _, by simp⟩
      clear hx hM hT hSd hsd ht hsz
      go_enter Tryz.func6, Tryz.ntmps6
      go_wp2_with (go_at_call 12; refine (HSd.out _).mono ?_; rintro _ w9 ⟨rfl, rfl⟩)
      go_loopg [6, 7] M (fun g v6 v7 wr => ∃ (k : Nat) (a : Option Addr) (c : Nat), v6 = .int .i64 (k : Int) ∧ k ≤ M ∧ M - k ≤ g ∧ wr.cell? ⟨w.heap.size, 0, none⟩ = some (.string lead) ∧ wr.cell? ⟨w.heap.size, 1, none⟩ = some (.slice a k c) ∧ wr.frozen? ⟨w.heap.size, 1, none⟩ = false ∧ w.heap.size < wr.heap.size ∧ Aside (RowsP w w.heap.size a k c ss wr))
      case atStart => exact ⟨0, none, 0, rfl, by omega, by omega, x0, x1, xf1, xl, H0.out⟩
      case round =>
        obtain ⟨k, a, c, rfl, hk, hg1, e0, e1, ef, eB, HI⟩ := hrel
        by_cases hlt : k < M
        · have hltz : (k : Int) < (M : Int) := by omega
          have hk0 : (0 : Int) ≤ (k : Int) := by omega
          have hks : k < ss.length := by have := HX.out.1; omega
          obtain ⟨tb, toff, rfl, htb, hcs⟩ := HX.out.2 (fun e => by rw [e] at hks; simp at hks)
          obtain ⟨s, hs⟩ : ∃ s, s = ss[k] := ⟨_, rfl⟩
          have d := (HI.out.1.cell (p := ⟨tb, toff + k, none⟩) htb).trans (hcs k s (by rw [hs]; exact List.getElem?_eq_getElem hks))
          have hst : ss.take (k + 1) = ss.take k ++ [s] := by rw [hs, List.take_add_one, List.getElem?_eq_getElem hks]; rfl
          have HS : Aside (ss.take (k + 1) = ss.take k ++ [s] ∧ tb < w.heap.size) := ⟨hst, htb⟩
          clear hcs hks hs hst htb
          by_cases hbig : 100 < s.size
          · have hbgz : (100 : Int) < (s.size : Int) := by omega
            have hbgd : decide ((100 : Int) < (s.size : Int)) = true := decide_eq_true hbgz
            go_wp2_with (go_at_call 13; refine (HA.out _ HI.out.1).mono ?_; rintro e w3 ⟨rfl, hb3⟩; have hB3 : Aside (Below w.heap.size w w3) := HI.out.1.trans (hb3.mono HI.out.1.size); clear hb3)
            go_ret
            exact ⟨rfl, hB3.out⟩
          · have hbgz : ¬ (100 : Int) < (s.size : Int) := by omega
            have hbgd : decide ((100 : Int) < (s.size : Int)) = false := decide_eq_false hbgz
            go_wp2_with fail
            go_loopg [7] s.size (fun g v7 wx => ∃ j : Nat, v7 = .int .i64 (j : Int) ∧ j ≤ s.size ∧ s.size - j ≤ g ∧ wx = wr ∧ Aside (∀ i, i < j → 32 ≤ byteS s i ∧ byteS s i ≤ 126))
            case atStart => exact ⟨0, rfl, by omega, by omega, rfl, fun i hi => by omega⟩
            case round =>
              obtain ⟨j, rfl, hj, hg2, rfl, HJ⟩ := hrel
              by_cases hjl : j < s.size
              · have hjz : (j : Int) < (s.size : Int) := by omega
                have hj0 : (0 : Int) ≤ (j : Int) := by omega
                obtain ⟨b, hb⟩ : ∃ b : Int, b = ((s[j]'hjl).toNat : Int) := ⟨_, rfl⟩
                have hbs : byteS s j = b := by rw [byteS_at hjl, hb]
                by_cases h1 : ((s[j]'hjl).toNat : Int) < 32
                · have h1d : decide (((s[j]'hjl).toNat : Int) < 32) = true := decide_eq_true h1
                  clear hb hbs
                  go_wp2_with (go_at_call 13; refine (HA.out _ HI.out.1).mono ?_; rintro e w3 ⟨rfl, hb3⟩; have hB3 : Aside (Below w.heap.size w w3) := HI.out.1.trans (hb3.mono HI.out.1.size); clear hb3)
                  go_ret
                  exact ⟨rfl, hB3.out⟩
                · have h1d : decide (((s[j]'hjl).toNat : Int) < 32) = false := decide_eq_false h1
                  by_cases h2 : 126 < ((s[j]'hjl).toNat : Int)
                  · have h2d : decide (126 < ((s[j]'hjl).toNat : Int)) = true := decide_eq_true h2
                    clear hb hbs
                    go_wp2_with (go_at_call 13; refine (HA.out _ HI.out.1).mono ?_; rintro e w3 ⟨rfl, hb3⟩; have hB3 : Aside (Below w.heap.size w w3) := HI.out.1.trans (hb3.mono HI.out.1.size); clear hb3)
                    go_ret
                    exact ⟨rfl, hB3.out⟩
                  · have h2d : decide (126 < ((s[j]'hjl).toNat : Int)) = false := decide_eq_false h2
                    have HJ2 : Aside (∀ i, i < j + 1 → 32 ≤ byteS s i ∧ byteS s i ≤ 126) := fun i hi => by
                      by_cases hij : i = j
                      · rw [hij, hbs, hb]; omega
                      · exact HJ.out i (by omega)
                    clear hb hbs HJ
                    go_wp2_with fail
                    go_roundg (s.size - (j + 1))
                    case measure => omega
                    case rel => exact ⟨j + 1, by first | rfl | go_num, by omega, by omega, rfl, HJ2.out⟩
              · have hjN : j = s.size := by omega
                have hjz : ¬ (j : Int) < (s.size : Int) := by omega
                have hjge : (s.size : Int) ≤ (j : Int) := by omega
                have HAsc : Aside (Asc (bytesL s)) := bytesL_asc (by rw [← hjN]; exact HJ.out)
                have hcv := fun X => Lib.run_convert_string_bytes (P := Tryz.prog) X 9 22 5 s Tryz.underlying9 Tryz.underlying22 Tryz.underlying5
                clear HJ
                go_wp2_with fail
                have hXb := (below_bytes wr s)
                have f0 : (Lib.bytesWorld wr.drew 5 s).cell? ⟨w.heap.size, 1, none⟩ = some (.slice a k c) := (hXb.cell (p := ⟨w.heap.size, 1, none⟩) eB).trans e1
                have fB : w.heap.size < (Lib.bytesWorld wr.drew 5 s).heap.size := Nat.lt_of_lt_of_le eB hXb.size
                have HG : Aside (∀ o w3 a3 c3, OwnF (RelP w.heap.size (Lib.bytesWorld wr.drew 5 s)) w3 (w.heap.size + 1) (.slice a3 (k + 1) c3) (((ss.take k).map bytesL).map fld1 ++ [fld1 (bytesL s)]) → ((Lib.bytesWorld wr.drew 5 s).alloc o).grownBy w3 (Value.slice a k c).ownBlock →
                    w3.cell? ⟨w.heap.size, 0, none⟩ = some (.string lead) ∧ w3.cell? ⟨w.heap.size, 1, none⟩ = some (.slice a k c) ∧ w3.frozen? ⟨w.heap.size, 1, none⟩ = false ∧ w.heap.size < w3.heap.size ∧ Aside (RowsP w w.heap.size a3 (k + 1) c3 ss (w3.setCell ⟨w.heap.size, 1, none⟩ (.slice a3 (k + 1) c3)))) := by
                  intro o w3 a3 c3 ho hg
                  have hX := hXb.alloc hXb.size o
                  have hb3 : Below (w.heap.size + 1) ((Lib.bytesWorld wr.drew 5 s).alloc o) w3 := (Below.refl _ _).grown hg (by have := hX.size; omega) fun g e => ((rows_own s HI.out o).field e.symm).1
                  have hb4 : Below (w.heap.size + 1) wr w3 := (hX.mono (by omega)).trans hb3
                  exact ⟨(hb4.cell (p := ⟨w.heap.size, 0, none⟩) (Nat.lt_succ_self _)).trans e0, (hb4.cell (p := ⟨w.heap.size, 1, none⟩) (Nat.lt_succ_self _)).trans e1, (hb4.frozen (p := ⟨w.heap.size, 1, none⟩) (Nat.lt_succ_self _)).trans ef, Nat.lt_of_lt_of_le eB hb4.size, rows_next HI.out eB HS.out.1 HAsc.out (by omega) ho hg⟩
                have HK : Aside (k < 20 ∧ M = ss.length ∧ s.size ≤ 100) := ⟨by omega, HX.out.1, by omega⟩
                clear hXb
                go_region_law (refine step_append_field rfl _ _ rfl (R := RelP w.heap.size (Lib.bytesWorld wr.drew 5 s)) (w.heap.size + 1) (.slice a k c) (((ss.take k).map bytesL).map fld1) rfl (rows_own s HI.out _) _ (fld1 (bytesL s)) rfl (src_oneP _ _ (bytesL s) _ rfl (conv_relP w.heap.size wr.drew s eB (by have := HK.out; omega))) (k + 1) (by have := HK.out; simp; omega) (by have := HK.out; omega) (by have := fB; simp; omega) ?_; intro a3 c3 w3 ho3 hg3; obtain ⟨q0, q1, qf, q4, HR⟩ := HG.out _ w3 a3 c3 ho3 hg3; clear ho3 hg3)
                all_goals
                  clear HG HK f0 fB
                  go_wp2_with fail
                  go_roundg (M - (k + 1))
                  case measure => omega
                  case rel => exact ⟨k + 1, a3, c3, by first | rfl | go_num, by omega, by omega, (cell_off (by decide)).trans q0, cell_put q1, (World.frozen?_setCell _ _ _ _).trans qf, by simpa using q4, HR.out⟩
        · have hkM : k = M := by omega
          have hltz : ¬ (k : Int) < (M : Int) := by omega
          have hge : (M : Int) ≤ (k : Int) := by omega
          subst hkM
          have hall : ss.take k = ss := List.take_of_length_le (by have := HX.out.1; omega)
          have hrow := HI.out.2.1
          have hasc := HI.out.2.2
          rw [hall] at hrow hasc
          have hbw : Below w.heap.size w wr := HI.out.1
          have hR : Recs wr (.slice a k c) ((ss.map bytesL).map fld1) := by
            refine ⟨OwnF.at (hrow.imp fun _ _ _ _ r => r.relV), by have := HX.out.1; simp; omega, fun f hf => ?_⟩
            obtain ⟨l, hl, rfl⟩ := List.mem_map.1 hf
            exact ⟨⟨(hasc l hl).2, fun x hx => by have := (hasc l hl).1 x hx; omega⟩, Nat.zero_le _, fun l hl => by cases hl⟩
          have hE := cEvidence wr (HTL.out.1.below hbw) lead _ _ hR
          have hD := fun X (hX : Below wr.heap.size wr X) => cDetect X (HTL.out.1.below (hbw.trans (hX.mono hbw.size))) lead (by have := HTL.out.2.1; omega) _ _ (hR.below hX)
          have ha1 : ∀ l ∈ ss.map bytesL, Asc l := fun l hl => (hasc l hl).1
          rw [evM_asc ha1, evU_asc ha1] at hE
          have HE : Hid (Calls Tryz.prog 14 #[.agg #[.string lead, .slice a k c]] wr fun e w' => e = .returned (.tuple #[.bool true, .bool true]) ∧ w'.cell? ⟨w.heap.size, 0, none⟩ = some (.string lead) ∧ w'.cell? ⟨w.heap.size, 1, none⟩ = some (.slice a k c) ∧ Aside (Below wr.heap.size wr w')) := hE.mono fun e w' h => ⟨h.1, (h.2.cell (p := ⟨w.heap.size, 0, none⟩) eB).trans e0, (h.2.cell (p := ⟨w.heap.size, 1, none⟩) eB).trans e1, h.2⟩
          have HD : Hid (∀ X, Below wr.heap.size wr X → Calls Tryz.prog 15 #[.agg #[.string lead, .slice a k c]] X fun e w' => e = .returned (.tuple #[.int .i64 t, .int .i64 0]) ∧ Below X.heap.size X w') := fun X hX => by
            have q := hD X hX
            rw [evM_asc ha1, evU_asc ha1, ← HTL.out.2.2, show detV t true true = (t, 0) by rcases hcd with rfl | rfl <;> rfl] at q
            exact q
          have HBW : Aside (Below w.heap.size w wr) := hbw
          clear hE hD hR hrow hasc hall ha1 hbw HTL HX HI H0
          rcases hcd with rfl | rfl
          all_goals
            go_wp2_with (first
              | (have q := hA3; go_at_call 13; refine (HA.out _ hA3.out).mono ?_; rintro e w4 ⟨rfl, hb4⟩; clear q)
              | (have q := hA3; go_at_call 16; refine (HCd.out _).mono ?_; rintro _ w9 ⟨rfl, rfl⟩; clear q)
              | (have q := hA2; go_at_call 15; refine (HD.out _ hA2.out).mono ?_; rintro e w3 ⟨rfl, hb3⟩; have hA3 : Aside (Below w.heap.size w w3) := HBW.out.trans ((hA2.out.trans (hb3.mono hA2.out.size)).mono HBW.out.size); clear hb3 q)
              | (go_at_call 14; refine HE.out.mono ?_; rintro e w2 ⟨rfl, z0, z1, hA2⟩; clear HE))
            go_ret
            exact ⟨rfl, hA3.out.trans (hb4.mono hA3.out.size)⟩
theorem plainRow {w : World} (tv : Value) (ss : List ByteArray) (h : StrsAt w tv ss) (lead : ByteArray) (hT : Tabs w) :
    Calls Tryz.prog 6 #[tv, .string lead] w fun e w' => e = .returned (.bool true) ∧ Below w.heap.size w w' := plainLaw w hT lead tv ss h
theorem strs_of {H : Type} {enc : TypeId × Value → H} {W : World} {a : Option Addr} {len cap : Nat} {d : DataW H} {ps : List MemPlace} (h : DataW.Trod enc Tryz.prog W 0 (fun _ => true) true 50 (.slice a len cap) d ps) :
    ∃ ss, StrsAt W (.slice a len cap) ss := by
  obtain ⟨fuel, hf⟩ := h
  rcases ChangeShapes.open_strings Tryz.underlying50 Tryz.underlying9 (by kernel_rfl) hf with ⟨hcs, _⟩ | ⟨x, n, c, zs, hcs, _, hl, hm, hz, _, hcell, _⟩
  · simp [Value.cells] at hcs
    obtain ⟨rfl, rfl, rfl⟩ := hcs
    exact ⟨[], none, 0, rfl, fun h => absurd rfl h⟩
  · simp [Value.cells] at hcs
    obtain ⟨rfl, rfl, rfl⟩ := hcs
    have hz' : zs.length = cap := by simpa using hz
    have hlen : (zs.take len).length = len := by rw [List.length_take]; omega
    have cells : ∀ (j : Nat) (y : ByteArray), (zs.take len)[j]? = some y → W.cell? (x.add j) = some (.string y) := fun j y hg => by
      have hj := (List.getElem?_eq_some_iff.1 hg).1
      rw [hlen] at hj
      have := hcell j (by omega)
      rw [this]
      rw [List.getElem?_take, if_pos hj] at hg
      simp [List.getD_eq_getElem?_getD, hg]
    refine ⟨zs.take len, some x, cap, by rw [hlen], fun hne => ?_⟩
    have hpos : 0 < (zs.take len).length := List.length_pos_iff.2 hne
    have h0 := cells 0 _ (List.getElem?_eq_getElem hpos)
    have ha : x.add 0 = x := by unfold Addr.add; rw [if_pos rfl]
    rw [ha] at h0
    obtain ⟨hs, hb⟩ := addr_row h0
    obtain ⟨xb, xo, xs⟩ := x
    simp only at hs hb
    subst hs
    refine ⟨xb, xo, rfl, hb, fun j y hj => ?_⟩
    have := cells j y hj
    rwa [Addr.add_lit] at this
end Go.Proofs.YtemhfcgkfdklhaaGreatDoor.Look
