/- A Record's data, opened into what the contracts ask. -/
import Derived.Test.YtemhfcgkfdklhaaGreatDoorDet9
import Derived.Deep.SlicePairs
import Derived.ChangeSlices
import Derived.Lib.SmallJoins
import Derived.SizedLaws
set_option linter.all false
namespace Go.Proofs.YtemhfcgkfdklhaaGreatDoor.Look
open Go Go.RowKit Go.Shelf Go.Proofs Go.Proofs.YtemhfcgkfdklhaaGreatDoor.Rd Go.ChangeShapes Go.WideShapes Go.Deep

theorem box2 (W : World) (a b : Value) (t : TypeId) : (W.alloc (.cells #[a, b] t)).cell? ⟨W.heap.size, 0, none⟩ = some a ∧ (W.alloc (.cells #[a, b] t)).cell? ⟨W.heap.size, 1, none⟩ = some b ∧ (W.alloc (.cells #[a, b] t)).frozen? ⟨W.heap.size, 0, none⟩ = false ∧ (W.alloc (.cells #[a, b] t)).frozen? ⟨W.heap.size, 1, none⟩ = false ∧ W.heap.size < (W.alloc (.cells #[a, b] t)).heap.size := by
  have hx : (W.alloc (.cells #[a, b] t)).heap[W.heap.size]? = some (.cells #[a, b] t) := (MapKept.heap_alloc W _).1
  refine ⟨?_, ?_, ?_, ?_, (Array.getElem?_eq_some_iff.1 hx).1⟩
  · unfold World.cell?; simp only [hx]; rfl
  · unfold World.cell?; simp only [hx]; rfl
  · unfold World.frozen?; simp only [hx]; rfl
  · unfold World.frozen?; simp only [hx]; rfl
theorem sound_coding {s : ByteArray} (h : soundV s = true) : (codingV s = 1 ∨ codingV s = 2) ∧ s.size = 24 := by
  have hz : s.size = 24 := by
    unfold soundV at h
    rw [Bool.and_eq_true] at h
    exact of_decide_eq_true h.1
  refine ⟨?_, hz⟩
  unfold codingV
  rw [if_pos h]
  split
  · exact .inr rfl
  · exact .inl rfl
theorem Recs.small {w : World} {fv : Value} {fs : List Fld} {lead : ByteArray} (h : FieldsAt w fv fs) (hb : ∀ f ∈ fs, (∀ x ∈ f.text, 0 ≤ x ∧ x ≤ 255) ∧ ∀ l ∈ f.subs, ∀ x ∈ l, 0 ≤ x ∧ x ≤ 255) (hs : smallV lead fs = true) : Recs w fv fs := by
  obtain ⟨_, h2, h3⟩ := small_all hs
  refine ⟨h, by omega, fun f hf => ?_⟩
  obtain ⟨k1, k2, k3⟩ := h3 f hf
  obtain ⟨j1, j2⟩ := hb f hf
  exact ⟨⟨by omega, j1⟩, by omega, fun l hl => ⟨by have := k3 l hl; omega, j2 l hl⟩⟩
def BytesR (fs : List Fld) : Prop := ∀ f ∈ fs, (∀ x ∈ f.text, 0 ≤ x ∧ x ≤ 255) ∧ ∀ l ∈ f.subs, ∀ x ∈ l, 0 ≤ x ∧ x ≤ 255

section
variable {H : Type} {enc : TypeId × Value → H} {W : World}
def Wok {H : Type} (t : TypeId) (d : DataW H) : Prop := ∀ n ∈ d.weights Tryz.prog t, n ≤ 140737488351232

theorem weights_all {e : TypeId} : ∀ {l : List (DataW H)} {d : DataW H}, d ∈ l → ∀ n ∈ d.weights Tryz.prog e, n ∈ DataW.weightsAll Tryz.prog e l
  | d' :: r, d, hd, n, hn => by
    simp only [DataW.weightsAll, List.mem_append]
    rcases List.mem_cons.1 hd with rfl | h
    · exact Or.inl hn
    · exact Or.inr (weights_all h n hn)
theorem Wok.elem {t e : TypeId} {el sp : List (DataW H)} {d : DataW H} (hu : Tryz.prog.underlying t = some (.slice e)) (h : Wok t (DataW.slice el sp)) (hd : d ∈ el) : Wok e d := fun n hn =>
  h n (by simp only [DataW.weights, hu, List.mem_cons, List.mem_append]; exact Or.inr (Or.inl (weights_all hd n hn)))
theorem Wok.top {t e : TypeId} {el sp : List (DataW H)} (hu : Tryz.prog.underlying t = some (.slice e)) (h : Wok t (DataW.slice el sp)) : (el.length + sp.length) * Tryz.prog.bytesOf e ≤ 140737488351232 :=
  h _ (by simp [DataW.weights, hu])
theorem Wok.part {t : TypeId} {fs : Array Field} {ds : List (DataW H)} {j : Nat} {u : TypeId} {d : DataW H} (hu : Tryz.prog.underlying t = some (.struct fs)) (h : Wok t (DataW.agg ds)) (ht : (fs.toList.map (·.type))[j]? = some u) (hd : ds[j]? = some d) : Wok u d := fun n hn =>
  h n (by simp only [DataW.weights, hu]; exact DataW.weights_mem_each ht hd n hn)

theorem addr_row {a : Addr} {v : Value} (h : W.cell? a = some v) : a.spot = none ∧ a.block < W.heap.size := by
  unfold World.cell? at h
  split at h
  · rename_i c0 t0 f0 hh
    refine ⟨?_, (Array.getElem?_eq_some_iff.1 hh).1⟩
    split at h
    · cases h
    · rename_i hs
      simpa using hs
  · cases h

theorem text_in {fuel : Nat} {cs : List Value} {x : DataW H × List MemPlace} (hf : DataW.trod enc Tryz.prog W 0 (fun _ => true) true fuel 22 cs = some x) (hw : Wok 22 x.1) :
    ∃ v l, cs = [v] ∧ TextV W v l ∧ l.length ≤ 140737488351232 ∧ ∀ y ∈ l, 0 ≤ y ∧ y ≤ 255 := by
  rcases open_ints Tryz.underlying22 Tryz.underlying5 (by kernel_rfl) hf with ⟨hcs, _⟩ | ⟨a, n, c, zs, hcs, _, hl, hm, hz, hx, hcell, hwz⟩
  · exact ⟨_, [], hcs, ⟨none, 0, rfl, fun h => absurd rfl h, Nat.le_refl _, by omega, fun _ => rfl⟩, by simp, by simp⟩
  · have hz' : zs.length = c := by simpa using hz
    have hlen : (zs.take n).length = n := by rw [List.length_take]; omega
    have z : n ≤ 140737488351232 := by
      rw [hx] at hw
      have := Wok.top Tryz.underlying22 hw
      rw [show Tryz.prog.bytesOf 5 = 1 by kernel_rfl] at this
      simp only [lits, List.length_map, List.length_take, List.length_drop] at this
      omega
    have cells : ∀ (j : Nat) (y : Int), (zs.take n)[j]? = some y → W.cell? (a.add j) = some (.int .u8 y) := fun j y hg => by
      have hj := (List.getElem?_eq_some_iff.1 hg).1
      rw [hlen] at hj
      have := hcell j (by omega)
      rw [this]
      rw [List.getElem?_take, if_pos hj] at hg
      simp [List.getD_eq_getElem?_getD, hg]
    refine ⟨_, zs.take n, hcs, ⟨some a, c, by rw [hlen], fun hne => ?_, by rw [hlen]; exact hl, by unfold maxLen at hm; omega, fun e => (by cases e)⟩, by rw [hlen]; exact z, fun y hy => ?_⟩
    · have hpos : 0 < (zs.take n).length := List.length_pos_iff.2 hne
      have h0 := cells 0 _ (List.getElem?_eq_getElem hpos)
      have ha : a.add 0 = a := by unfold Addr.add; rw [if_pos rfl]
      rw [ha] at h0
      obtain ⟨hs, hb⟩ := addr_row h0
      obtain ⟨xb, xo, xs⟩ := a
      simp only at hs hb
      subst hs
      refine ⟨xb, xo, rfl, hb, fun j y hj => ?_⟩
      have := cells j y hj
      rwa [Addr.add_lit] at this
    · have := hwz y (List.mem_of_mem_take hy)
      simp [Lit.wf] at this
      exact this

theorem subs_in {fuel : Nat} {cs : List Value} {x : DataW H × List MemPlace} (hf : DataW.trod enc Tryz.prog W 0 (fun _ => true) true fuel 46 cs = some x) (hw : Wok 46 x.1) :
    ∃ v ls, cs = [v] ∧ SubsAt W v ls ∧ ls.length ≤ 140737488351232 ∧ ∀ l ∈ ls, l.length ≤ 140737488351232 ∧ ∀ y ∈ l, 0 ≤ y ∧ y ≤ 255 := by
  rcases open_slice_pairs Tryz.underlying46 Tryz.underlying64 (by kernel_rfl) rfl rfl (by kernel_rfl) (by kernel_rfl) hf with ⟨hcs, _⟩ | ⟨a, n, c, m, k, V0, V1, D0, D1, P0, P1, hcs, _, hl, hm, hmm, hx, hrow⟩
  · exact ⟨_, [], hcs, ⟨none, 0, rfl, fun h => absurd rfl h⟩, by simp, by simp⟩
  · have hmc : m = c := by simpa using hmm
    subst hmc
    rw [hx] at hw
    have hz := Wok.top Tryz.underlying46 hw
    rw [show Tryz.prog.bytesOf 64 = 32 by kernel_rfl] at hz
    simp only [List.length_map, List.length_range] at hz
    have each : ∀ i, i < n → ∃ (l : List Int), (∃ code, V0 i = .int .u8 code) ∧ TextV W (V1 i) l ∧ l.length ≤ 140737488351232 ∧ ∀ y ∈ l, 0 ≤ y ∧ y ≤ 255 := by
      intro i hi
      obtain ⟨_, _, h0, h1⟩ := hrow i (by omega)
      obtain ⟨z, hz0, _⟩ := DataW.trod_int Tryz.underlying5 h0
      have he : Wok 64 (DataW.agg [D0 i, D1 i]) := Wok.elem Tryz.underlying46 hw (List.mem_map.2 ⟨i, List.mem_range.2 hi, rfl⟩)
      have hp : Wok 22 (D1 i) := Wok.part (j := 1) Tryz.underlying64 he rfl rfl
      obtain ⟨v, l, hv, ht, hz1, hby⟩ := text_in h1 hp
      obtain rfl := (List.cons.inj hv).1
      exact ⟨l, ⟨z, (List.cons.inj hz0).1⟩, ht, hz1, hby⟩
    obtain ⟨L, hL⟩ := choose_lt each
    refine ⟨_, (List.range n).map L, hcs, ⟨some a, m, by simp, fun hne => ?_⟩, by simp; omega, fun l hl' => ?_⟩
    · have hn : 0 < n := by
        rcases Nat.eq_zero_or_pos n with h | h
        · subst h; exact absurd rfl hne
        · exact h
      have h0 := (hrow 0 (by omega)).1
      have ha : a.add (0 * 2) = a := by unfold Addr.add; rw [if_pos rfl]
      rw [ha] at h0
      obtain ⟨hs, hb⟩ := addr_row h0
      obtain ⟨xb, xo, xs⟩ := a
      simp only at hs hb
      subst hs
      refine ⟨xb, xo, rfl, hb, fun j l hj => ?_⟩
      have hjn : j < n := by
        have := (List.getElem?_eq_some_iff.1 hj).1
        simpa using this
      have hlj : L j = l := by
        rw [List.getElem?_map, List.getElem?_range hjn] at hj
        exact Option.some.inj hj
      subst hlj
      obtain ⟨hc0, hc1, _, _⟩ := hrow j (by omega)
      obtain ⟨⟨code, hcode⟩, ht, _⟩ := hL j hjn
      rw [Addr.add_lit] at hc0 hc1
      rw [hcode] at hc0
      exact ⟨code, _, hc0, hc1, ht⟩
    · obtain ⟨i, hi, rfl⟩ := List.mem_map.1 hl'
      exact (hL i (List.mem_range.1 hi)).2.2

set_option maxRecDepth 100000 in
theorem arr2_in {fuel : Nat} {c0 c1 : Value} {x : DataW H × List MemPlace} (hf : DataW.trod enc Tryz.prog W 0 (fun _ => true) true fuel 45 [c0, c1] = some x) : ∃ i0 i1, c0 = .int .u8 i0 ∧ c1 = .int .u8 i1 := by
  cases fuel with
  | zero => simp [DataW.trod] at hf
  | succ n =>
    unfold DataW.trod at hf
    rw [Tryz.underlying45] at hf
    simp only [show Tryz.prog.cellsOf 45 = 2 by kernel_rfl, show Tryz.prog.cellsOf 5 = 1 by kernel_rfl, List.length_cons, List.length_nil, if_true, Nat.zero_add, Nat.reduceAdd] at hf
    obtain ⟨xs, hxs, _⟩ := Option.map_eq_some_iff.1 hf
    have hr : List.range 2 = [0, 1] := rfl
    rw [hr] at hxs
    simp only [List.mapM_cons, List.mapM_nil, Option.bind_eq_bind, Option.bind_eq_some_iff] at hxs
    obtain ⟨y0, h0, _, ⟨y1, h1, _⟩, _⟩ := hxs
    simp at h0 h1
    obtain ⟨z0, e0, _⟩ := DataW.trod_int Tryz.underlying5 h0
    obtain ⟨z1, e1, _⟩ := DataW.trod_int Tryz.underlying5 h1
    exact ⟨z0, z1, (List.cons.inj e0).1, (List.cons.inj e1).1⟩

instance : Inhabited Fld := ⟨⟨.empty, [], []⟩⟩
set_option maxRecDepth 100000 in
theorem field_in {fuel : Nat} {cs : List Value} {x : DataW H × List MemPlace} (hf : DataW.trod enc Tryz.prog W 0 (fun _ => true) true fuel 48 cs = some x) (hw : Wok 48 x.1) :
    ∃ (f : Fld) (vt : Value) (i0 i1 : Int) (vs : Value), cs = [.string f.tag, vt, .int .u8 i0, .int .u8 i1, vs] ∧ TextV W vt f.text ∧ SubsAt W vs f.subs ∧
      f.text.length ≤ 140737488351232 ∧ f.subs.length ≤ 140737488351232 ∧ (∀ y ∈ f.text, 0 ≤ y ∧ y ≤ 255) ∧ ∀ l ∈ f.subs, l.length ≤ 140737488351232 ∧ ∀ y ∈ l, 0 ≤ y ∧ y ≤ 255 := by
  obtain ⟨y0, y1, y2, y3, n, hx, hlen, h0, h1, h2, h3⟩ := Joins.trod_struct4 Tryz.underlying48 hf
  rw [show Tryz.prog.cellsOf 48 = 5 by kernel_rfl] at hlen
  rw [hx] at hw
  match cs, hlen with
  | [c0, c1, c2, c3, c4], _ =>
    simp only [show Tryz.prog.cellsOf 9 = 1 by kernel_rfl] at h0
    simp only [show Tryz.prog.cellsOf 22 = 1 by kernel_rfl] at h1
    simp only [show Tryz.prog.cellsOf 45 = 2 by kernel_rfl] at h2
    simp only [show Tryz.prog.cellsOf 46 = 1 by kernel_rfl] at h3
    simp only [List.drop_zero, List.drop_succ_cons, List.take_succ_cons, List.take_zero] at h0 h1 h2 h3
    have w1 : Wok 22 y1.1 := Wok.part (j := 1) Tryz.underlying48 hw rfl rfl
    have w3 : Wok 46 y3.1 := Wok.part (j := 3) Tryz.underlying48 hw rfl rfl
    obtain ⟨s, hs, _, _⟩ := DataW.trod_string Tryz.underlying9 h0
    obtain ⟨vt, l, hvt, ht, hz1, hb1⟩ := text_in h1 w1
    obtain ⟨i0, i1, hi0, hi1⟩ := arr2_in h2
    obtain ⟨vs, ls, hvs, hsub, hz2, hb2⟩ := subs_in h3 w3
    obtain rfl := (List.cons.inj hs).1
    obtain rfl := (List.cons.inj hvt).1
    obtain rfl := (List.cons.inj hvs).1
    subst hi0 hi1
    exact ⟨⟨s, l, ls⟩, _, i0, i1, _, rfl, ht, hsub, hz1, hz2, hb1, hb2⟩

set_option maxRecDepth 100000 in
theorem fields_in {fuel : Nat} {cs : List Value} {x : DataW H × List MemPlace} (hf : DataW.trod enc Tryz.prog W 0 (fun _ => true) true fuel 34 cs = some x) (hw : Wok 34 x.1) :
    ∃ v fs, cs = [v] ∧ (∀ n c, v = .slice none n c → c = 0) ∧ FieldsAt W v fs ∧ fs.length ≤ 140737488351232 ∧ ∀ f ∈ fs, f.text.length ≤ 140737488351232 ∧ f.subs.length ≤ 140737488351232 ∧ (∀ y ∈ f.text, 0 ≤ y ∧ y ≤ 255) ∧ ∀ l ∈ f.subs, l.length ≤ 140737488351232 ∧ ∀ y ∈ l, 0 ≤ y ∧ y ≤ 255 := by
  rcases open_slice Tryz.underlying34 hf with ⟨hcs, _⟩ | ⟨a, n, c, m, k, D, Pl, hcs, _, hl, hm, hmm, hx, hrow⟩
  · exact ⟨_, [], hcs, fun _ _ e => (by cases e; rfl), ⟨none, 0, rfl, fun h => absurd rfl h⟩, by simp, by simp⟩
  · have hmc : m = c := by simpa using hmm
    subst hmc
    have hc5 : Tryz.prog.cellsOf 48 = 5 := by kernel_rfl
    rw [hx] at hw
    have hz := Wok.top Tryz.underlying34 hw
    rw [show Tryz.prog.bytesOf 48 = 72 by kernel_rfl] at hz
    simp only [List.length_map, List.length_range] at hz
    have each : ∀ i, i < n → ∃ (f : Fld), (∃ vt i0 i1 vs, W.cell? (a.add (i * 5)) = some (.string f.tag) ∧ W.cell? (a.add (i * 5 + 1)) = some vt ∧ W.cell? (a.add (i * 5 + 2)) = some (.int .u8 i0) ∧ W.cell? (a.add (i * 5 + 3)) = some (.int .u8 i1) ∧ W.cell? (a.add (i * 5 + 4)) = some vs ∧ TextV W vt f.text ∧ SubsAt W vs f.subs) ∧
        f.text.length ≤ 140737488351232 ∧ f.subs.length ≤ 140737488351232 ∧ (∀ y ∈ f.text, 0 ≤ y ∧ y ≤ 255) ∧ ∀ l ∈ f.subs, l.length ≤ 140737488351232 ∧ ∀ y ∈ l, 0 ≤ y ∧ y ≤ 255 := by
      intro i hi
      obtain ⟨cs', h1, h2⟩ := hrow i (by omega)
      rw [hc5] at h1
      have he : Wok 48 (D i) := Wok.elem Tryz.underlying34 hw (List.mem_map.2 ⟨i, List.mem_range.2 hi, rfl⟩)
      obtain ⟨f, vt, i0, i1, vs, rfl, ht, hsub, hz1⟩ := field_in h2 he
      obtain ⟨_, _, hcell⟩ := World.cells?_some h1
      have e0 := hcell 0 (by omega)
      have e1 := hcell 1 (by omega)
      have e2 := hcell 2 (by omega)
      have e3 := hcell 3 (by omega)
      have e4 := hcell 4 (by omega)
      rw [add_add] at e0 e1 e2 e3 e4
      exact ⟨f, ⟨vt, i0, i1, vs, by simpa using e0, by simpa using e1, by simpa using e2, by simpa using e3, by simpa using e4, ht, hsub⟩, hz1⟩
    obtain ⟨L, hL⟩ := choose_lt each
    refine ⟨_, (List.range n).map L, hcs, fun _ _ e => (by cases e), ⟨some a, m, by simp, fun hne => ?_⟩, by simp; omega, fun f hf' => ?_⟩
    · have hn : 0 < n := by
        rcases Nat.eq_zero_or_pos n with h | h
        · subst h; exact absurd rfl hne
        · exact h
      obtain ⟨_, _, _, _, h0, _⟩ := (hL 0 hn).1
      have ha : a.add (0 * 5) = a := by unfold Addr.add; rw [if_pos rfl]
      rw [ha] at h0
      obtain ⟨hs, hb⟩ := addr_row h0
      obtain ⟨xb, xo, xs⟩ := a
      simp only at hs hb
      subst hs
      refine ⟨xb, xo, rfl, hb, fun j f hj => ?_⟩
      have hjn : j < n := by
        have := (List.getElem?_eq_some_iff.1 hj).1
        simpa using this
      have hlj : L j = f := by
        rw [List.getElem?_map, List.getElem?_range hjn] at hj
        exact Option.some.inj hj
      subst hlj
      have := (hL j hjn).1
      simp only [Addr.add_lit] at this
      exact this
    · obtain ⟨i, hi, rfl⟩ := List.mem_map.1 hf'
      exact (hL i (List.mem_range.1 hi)).2
structure RecIn (w : World) (lead : ByteArray) (fv : Value) (fs : List Fld) : Prop where
  flds : FieldsAt w fv fs
  fits : FitsR lead fs
  bytes : BytesR fs
  nil : ∀ n c, fv = .slice none n c → c = 0
theorem rec_in {fuel : Nat} {c0 c1 : Value} {y0 y1 : DataW H × List MemPlace} (h0 : DataW.trod enc Tryz.prog W 0 (fun _ => true) true fuel 9 [c0] = some y0) (h1 : DataW.trod enc Tryz.prog W 0 (fun _ => true) true fuel 34 [c1] = some y1) (hw : Wok 36 (DataW.agg [y0.1, y1.1])) :
    ∃ lead fs, c0 = .string lead ∧ RecIn W lead c1 fs := by
  have w0 : Wok 9 y0.1 := Wok.part (j := 0) Tryz.underlying36 hw rfl rfl
  have w1 : Wok 34 y1.1 := Wok.part (j := 1) Tryz.underlying36 hw rfl rfl
  obtain ⟨s, hs, hx, _⟩ := DataW.trod_string Tryz.underlying9 h0
  have hz : s.size ≤ 140737488351232 := by
    rw [hx] at w0
    have := w0 s.data.toList.length (by simp [DataW.weights])
    simpa using this
  obtain ⟨v, fs, hv, hn, hf, hl, hb⟩ := fields_in h1 w1
  obtain rfl := (List.cons.inj hs).1
  obtain rfl := (List.cons.inj hv).1
  exact ⟨s, fs, rfl, hf, ⟨by unfold Fits; omega, by unfold Fits; omega, fun f hf => ⟨by have := (hb f hf).1; unfold Fits; omega, by have := (hb f hf).2.1; unfold Fits; omega, fun x hx => by have := ((hb f hf).2.2.2 x hx).1; unfold Fits; omega⟩⟩,
    fun f hf => ⟨(hb f hf).2.2.1, fun l hl x hx => ((hb f hf).2.2.2 l hl).2 x hx⟩, hn⟩
end
end Go.Proofs.YtemhfcgkfdklhaaGreatDoor.Look
