/- slices.SortFunc at pairs: the closure, the function; a sorted permutation of distinct keys is the table. -/
import Derived.Deep.QuietTactic
import Derived.BigQuiet
import Derived.Shelf.SlSortCmp.WholeK
import Derived.Test.YtkadmnabhoijdaaDoorNew1
import Derived.Test.YtkadmnabhoijdaaDoorLayS
set_option linter.unusedVariables false
namespace Go.Proofs.YtkadmnabhoijdaaDoor.New
open Go Go.RowKit Go.Shelf Go.Proofs Go.Sort Go.Lib

/-- A pair whose key is a character. -/
abbrev S4 := { p : P4 // 0 ≤ p.1 ∧ p.1 ≤ 1114111 }
instance : Inhabited S4 := ⟨⟨(0, 0, 0, false), by decide⟩⟩
def encS (p : S4) : List Value := enc4 p.1
def cfS (x y : S4) : Int := x.1.1 - y.1.1
theorem ltS (x y : S4) : ltOf cfS x y = decide (x.1.1 < y.1.1) := by
  unfold ltOf cfS
  apply decide_eq_decide.2
  omega
theorem swoS : SWO (ltOf cfS) where
  irrefl x := by rw [ltS]; simp
  trans x y z h1 h2 := by rw [ltS] at *; simp at *; omega
  ntrans x y z h1 h2 := by rw [ltS] at *; simp at *; omega

set_option maxHeartbeats 4000000 in
set_option maxRecDepth 100000 in
theorem closureS (x y : S4) (W : World) : Calls Tryd.prog 36 #[.agg (encS x).toArray, .agg (encS y).toArray] W fun e w' => e = .returned (.int .i64 (cfS x y)) ∧ ∃ q os', w' = grow (W.drewN q) os' := by
  obtain ⟨⟨r, a, b, j⟩, h0, h1⟩ := x
  obtain ⟨⟨r', a', b', j'⟩, h0', h1'⟩ := y
  simp only at h0 h1 h0' h1'
  have hw : wrap32 (r - r') = r - r' := by unfold wrap32; omega
  have hw2 : IntKind.i32.wrap (r - r') = r - r' := by
    simp only [IntKind.wrap, IntKind.bits, IntKind.signed]
    simp
    split <;> omega
  simp only [encS, enc4, cfS]
  go_enter Tryd.func36, Tryd.ntmps36
  go_wp2
  go_ret
  exact ⟨rfl, 0, _, by rw [alloc_eq_grow, alloc_eq_grow, grow_grow]; rfl⟩

theorem cmpS (blk off size : Nat) (w : World) : CmpLays Tryd.prog 36 #[] encS 4 cfS blk off size w := fun _ _ _ _ x y => closureS x y _

set_option maxHeartbeats 4000000 in
set_option maxRecDepth 100000 in
/-- SortFunc: a sorted permutation. -/
theorem sortFunc (blk cap : Nat) (d : Array S4) (w : World) (hH : HoldsK encS 4 w blk 0 d) (hblk : blk < w.heap.size) (hsz : d.size < 4611686018427387904) :
    Calls Tryd.prog 35 #[.slice (some ⟨blk, 0, none⟩) d.size cap, .func (.func 36) #[] #[]] w fun e w' =>
      e = .returned (.tuple #[]) ∧ ∃ d' n os, PermIn 0 d.size d d' ∧ SortedIn (ltOf cfS) 0 d.size d' ∧ w' = sortWorldK encS 4 w blk 0 n d' os := by
  have eg : ∀ args w, (callFunc 36 args).run Tryd.prog w = .ok (.enter 36 args) w := enters_of Tryd.func36 (by kernel_rfl) rfl
  have hlim : Lib.bitLen d.size < 4611686018427387904 := Nat.lt_of_le_of_lt (Lib.bitLen_le d.size 62 (by omega) (by omega)) (by omega)
  have hp := AnyQ.pdqsortCmpFunc_all Tryd.sortPair 4 (fun w => by kernel_rfl) (fun w => by kernel_rfl) encS cfS 36 #[] swoS blk 0 cap d w eg (cmpS blk 0 d.size w) ⟨fun _ => rfl, fun x v hv => by simp [encS, enc4] at hv; rcases hv with rfl | rfl | rfl | rfl <;> rfl, hH, hblk⟩ (d.size + 1) 0 d.size (Lib.bitLen d.size) d w (by omega) rfl (SWK.start hH) (Nat.zero_le _) (Nat.le_refl _) hsz hlim (Or.inl rfl)
  change Calls Tryd.prog 45 _ _ _ at hp
  have hl : Calls Tryd.prog 46 #[.int .u64 (d.size : Int)] w fun e w' => e = .returned (.int .i64 (Lib.bitLen d.size : Nat)) ∧ w' = w := by
    have h := Tryd.bits_Len (d.size : Int) w (by omega) (by omega)
    rwa [Int.toNat_natCast] at h
  have wr : IntKind.u64.wrap (d.size : Int) = d.size := by simp [IntKind.wrap, IntKind.bits, IntKind.signed]; omega
  have hpq := pdq_sorts (ltOf cfS) swoS d 0 d.size (Lib.bitLen d.size) true true (Nat.zero_le _) (Nat.le_refl _) (Or.inl rfl)
  generalize pdq (ltOf cfS) d 0 d.size (Lib.bitLen d.size) true true = d' at hp hpq
  clear hH
  go_enter Tryd.func35, Tryd.ntmps35
  go_wp2_with (first | (go_at_call 46; refine hl.mono ?_; rintro e w' ⟨rfl, rfl⟩) | (go_at_call 45; refine hp.mono ?_; rintro e w' ⟨rfl, n, os, rfl⟩))
  go_end0
  exact ⟨rfl, d', n, os, hpq.1, hpq.2, rfl⟩

theorem cells4_at : ∀ (l : List P4) (j : Nat) (v : Value), (cells4 l)[j]? = some v ↔ ∃ p, l[j / 4]? = some p ∧ (enc4 p)[j % 4]? = some v
  | [], j, v => by simp [cells4]
  | q :: l, j, v => by
    have e : cells4 (q :: l) = enc4 q ++ cells4 l := by simp [cells4]
    rw [e]
    by_cases hj : j < 4
    · rw [List.getElem?_append_left (by simpa [enc4] using hj), Nat.div_eq_of_lt hj, Nat.mod_eq_of_lt hj]
      simp
    · rw [List.getElem?_append_right (by simp [enc4]; omega)]
      have ih := cells4_at l (j - 4) v
      rw [show (enc4 q).length = 4 from rfl, ih, show j / 4 = (j - 4) / 4 + 1 by omega, show j % 4 = (j - 4) % 4 by omega]
      simp

theorem holdsK_of_row {W : World} {base g n cap : Nat} (L : List S4) (ho : W.ownsRow base 59 4 (.slice (some ⟨g, 0, none⟩) n cap) n (cells4 (L.map (·.1)))) : HoldsK encS 4 W g 0 L.toArray := by
  intro j hj
  rw [size_flatK] at hj
  have hj' : j < L.length * 4 := by simpa using hj
  rw [get_flatK _ _ _ _ hj, Nat.zero_add]
  have hd : j / 4 < L.length := by omega
  have hc : (cells4 (L.map (·.1)))[j]? = some ((encS L.toArray[j / 4]!)[j % 4]!) := by
    rw [cells4_at]
    refine ⟨L[j / 4].1, by simp [hd], ?_⟩
    have e1 : L.toArray[j / 4]! = L[j / 4] := by simp [hd]
    rw [e1]
    have hm : j % 4 < 4 := Nat.mod_lt _ (by decide)
    have hm2 : j % 4 < (encS L[j / 4]).length := by simpa [encS, enc4] using hm
    rw [getElem!_pos (encS L[j / 4]) (j % 4) hm2]
    exact List.getElem?_eq_getElem hm2
  refine ⟨?_, ho.frozenAt j⟩
  have := ho.cellAt j (by have h1 := ho.1; rw [cells4_length, List.length_map] at h1; omega)
  rw [this]
  exact hc

theorem row_of_holdsK {W : World} {g : Nat} (d : Array S4) (h : HoldsK encS 4 W g 0 d) : ∀ j v, (cells4 (d.toList.map (·.1)))[j]? = some v → W.cell? ⟨g, j, none⟩ = some v := by
  intro j v hv
  have hj : j < (cells4 (d.toList.map (·.1))).length := (List.getElem?_eq_some_iff.1 hv).1
  rw [cells4_length] at hj
  have hj' : j < d.size * 4 := by simpa using hj
  have h1 := (h j (by rw [size_flatK]; exact hj')).1
  rw [get_flatK _ _ _ _ hj', Nat.zero_add] at h1
  rw [cells4_at] at hv
  obtain ⟨p, hp, hq⟩ := hv
  have hd : j / 4 < d.size := by omega
  have e1 : d[j / 4]! = d[j / 4] := getElem!_pos d _ hd
  have e2 : p = d[j / 4].1 := by
    simp [hd] at hp
    exact hp.symm
  subst e2
  rw [h1, e1, id]
  have hm2 : j % 4 < (encS d[j / 4]).length := by
    have : j % 4 < 4 := Nat.mod_lt _ (by decide)
    simpa [encS, enc4] using this
  rw [getElem!_pos (encS d[j / 4]) (j % 4) hm2]
  have : (encS d[j / 4])[j % 4]? = some v := hq
  rw [List.getElem?_eq_getElem hm2] at this
  exact this

theorem sortW_other {W : World} {g n : Nat} {d : Array S4} {os : Array Obj} {k : Nat} (hk : k < W.heap.size) (hne : k ≠ g) : (sortWorldK encS 4 W g 0 n d os).heap[k]? = W.heap[k]? := by
  unfold sortWorldK grow putRowK putRow mapBlock
  simp only []
  rw [Array.getElem?_append_left (by simpa [Sort.ahead] using hk), Array.getElem?_modify, if_neg (fun e => hne e.symm)]
  rfl
theorem sortW_size {W : World} {g n : Nat} {d : Array S4} {os : Array Obj} : W.heap.size ≤ (sortWorldK encS 4 W g 0 n d os).heap.size := by
  unfold sortWorldK grow putRowK putRow mapBlock
  simp [Sort.ahead]

theorem sortW_facts {W Z : World} {g n : Nat} {d d' : Array S4} {os : Array Obj} (hZ : Z = sortWorldK encS 4 W g 0 n d' os) (hg : g < W.heap.size) (hH : HoldsK encS 4 W g 0 d) (hs : d'.size = d.size) :
    W.heap.size ≤ Z.heap.size ∧ (∀ k, k < W.heap.size → k ≠ g → Z.heap[k]? = W.heap[k]?) ∧ HoldsK encS 4 Z g 0 d' ∧ (Z.os = W.os ∧ Z.tape = W.tape ∧ Z.output = W.output) := by
  subst hZ
  exact ⟨sortW_size, fun k hk hne => sortW_other hk hne, holdsK_sortWorldK encS 4 W g 0 n d d' os hg hH hs, rfl, rfl, rfl⟩

/-- The list, its keys being characters. -/
theorem lift : ∀ l : List P4, (∀ p ∈ l, 0 ≤ p.1 ∧ p.1 ≤ 1114111) → ∃ L : List S4, L.map (·.1) = l
  | [], _ => ⟨[], rfl⟩
  | p :: l, h => by
    obtain ⟨L, hL⟩ := lift l (fun q hq => h q (by simp [hq]))
    exact ⟨⟨p, h p (by simp)⟩ :: L, by simp [hL]⟩

theorem perm_of {d d' : Array S4} (h : PermIn 0 d.size d d') : d'.toList.Perm d.toList := by
  have h2 := h.2.2
  have e1 : d.extract 0 d.size = d := by simp
  have e2 : d'.extract 0 d.size = d' := by rw [← h.1]; simp
  rw [e1, e2] at h2
  exact h2
theorem sorted_of {d' : Array S4} (n : Nat) (hn : d'.size = n) (h : SortedIn (ltOf cfS) 0 n d') : d'.toList.Pairwise (fun a b => a.1.1 ≤ b.1.1) := by
  rw [List.pairwise_iff_getElem]
  intro i j hi hj hij
  have := h i j (Nat.zero_le _) hij (by simpa [hn] using hj)
  rw [ltS] at this
  have hi' : i < d'.size := by simpa using hi
  have hj' : j < d'.size := by simpa using hj
  rw [getElem!_pos d' i hi', getElem!_pos d' j hj'] at this
  simp at this ⊢
  exact this
/-- Two lists of the same elements, both in order, keys telling elements apart, are one. -/
theorem eq_of_sorted : ∀ (l1 l2 : List P4), l1.Perm l2 → l1.Pairwise (fun a b => a.1 ≤ b.1) → l2.Pairwise (fun a b => a.1 ≤ b.1) → (∀ a ∈ l1, ∀ b ∈ l1, a.1 = b.1 → a = b) → l1 = l2
  | [], l2, h, _, _, _ => (List.Perm.nil_eq h)
  | a :: l1, [], h, _, _, _ => absurd h.length_eq (by simp)
  | a :: l1, b :: l2, h, h1, h2, hk => by
    have ha : a ∈ b :: l2 := h.subset (by simp)
    have hb : b ∈ a :: l1 := h.symm.subset (by simp)
    have hab : a.1 ≤ b.1 := by
      rcases List.mem_cons.1 hb with e | e
      · rw [e]; exact Int.le_refl _
      · exact (List.pairwise_cons.1 h1).1 b e
    have hba : b.1 ≤ a.1 := by
      rcases List.mem_cons.1 ha with e | e
      · rw [e]; exact Int.le_refl _
      · exact (List.pairwise_cons.1 h2).1 a e
    obtain rfl := hk a (by simp) b hb (by omega)
    rw [eq_of_sorted l1 l2 (List.Perm.cons_inv h) (List.pairwise_cons.1 h1).2 (List.pairwise_cons.1 h2).2 (fun x hx y hy => hk x (by simp [hx]) y (by simp [hy]))]
end Go.Proofs.YtkadmnabhoijdaaDoor.New
