/- latin.Each: it hands every number of the lines, and its character, to its closure. -/
import Derived.Lib.SmallJoins
import Derived.Maps.RangeWalk
import Derived.Shelf.Unicode.DecodeSlow
import Derived.Sort.LoopGhostIn
import Derived.Sort.CutIn
import Derived.Test.YtemhfcgkfdklhaaGreatDoorEachP
import Derived.Test.YtemhfcgkfdklhaaGreatDoorSeq2
set_option linter.unusedVariables false
namespace Go.Proofs.YtemhfcgkfdklhaaGreatDoor.Look
open Go Go.RowKit Go.Shelf Go.Proofs Go.Proofs.YtemhfcgkfdklhaaGreatDoor.Seq Go.Proofs.YtemhfcgkfdklhaaGreatDoor.Hex Go.Proofs.YtemhfcgkfdklhaaGreatDoor.FF
attribute [local go_sem] Oper.semAt_some

theorem putObj_free (X : World) (l : Nat) (o : Obj) : Idx.Free (fun k => k = l) X (X.putObj l o) := Idx.Free.of_grown (grownBy_putObj' X l o) fun k e => by injection e with e; exact e.symm

/-- Between two rounds: behind the lines pre. -/
structure EI (J : World → List (Int × Int) → (Nat → Prop) → Prop) (w : World) (fv : Value) (L0 : List (Int × Int)) (O0 : Nat → Prop) (N : Nat) (pre : List ByteArray) (X : World) : Prop where
  ex : ∃ O, J X (L0 ++ eachL pre) O ∧ ∀ k, O k → O0 k ∨ N ≤ k
  free : Idx.Free O0 w X
  box : Boxed X w.heap.size 86 fv
theorem EI.step {gf : Nat} {lb : Array Value} {J : World → List (Int × Int) → (Nat → Prop) → Prop} (hS : Steps gf lb J) {w : World} {fv : Value} {L0 : List (Int × Int)} {O0 : Nat → Prop} {N : Nat} {pre : List ByteArray} {X Y : World} (h : EI J w fv L0 O0 N pre X) (hO : ∀ k, O0 k → k < w.heap.size)
    {Q : Nat → Prop} (hf : Idx.Free Q X Y) (hQ : ∀ k, Q k → w.heap.size < k ∧ k < N) : EI J w fv L0 O0 N pre Y := by
  obtain ⟨⟨O, hJ, hO2⟩, hfr, hb⟩ := h
  refine ⟨⟨O, hS.kept hJ hf.size fun k hk => hf.block k (hS.lt hJ hk) fun hq => ?_, hO2⟩, hfr.trans hf fun k hk hl => by have := hQ k hk; omega, ?_⟩
  · have h1 := hQ k hq
    rcases hO2 k hk with h | h
    · have := hO k h; omega
    · omega
  · exact (hf.block _ hb.lt fun hq => by have := hQ _ hq; omega).trans hb
/-- Within a round: behind the first k words. -/
structure EW (J : World → List (Int × Int) → (Nat → Prop) → Prop) (X X1 : World) (L1 : List (Int × Int)) (v : Int) (t : List ByteArray) (O0 : Nat → Prop) (N A : Nat) (wr : World) (k : Nat) : Prop where
  ex : ∃ O, J wr (L1 ++ wordsL v 0 (t.take k)) O ∧ (∀ i, O i → O0 i ∨ N ≤ i) ∧ ¬ O A
  free : Idx.Free (fun i => O0 i ∨ N ≤ i) X wr
  row : wr.heap[A]? = X1.heap[A]?
  lt : A < wr.heap.size
theorem EW.below {gf : Nat} {lb : Array Value} {J : World → List (Int × Int) → (Nat → Prop) → Prop} (hS : Steps gf lb J) {X X1 : World} {L1 : List (Int × Int)} {v : Int} {t : List ByteArray} {O0 : Nat → Prop} {N A k : Nat} {wr wr' : World}
    (h : EW J X X1 L1 v t O0 N A wr k) (hb : Below wr.heap.size wr wr') : EW J X X1 L1 v t O0 N A wr' k := by
  obtain ⟨⟨O, hJ, h1, h2⟩, hf, hr, hl⟩ := h
  exact ⟨⟨O, hS.kept hJ hb.size fun k hk => hb.block k (hS.lt hJ hk), h1, h2⟩, hf.trans (Idx.Free.of_below hb (O := fun _ => False)) (fun _ h _ => h.elim), (hb.block _ hl).trans hr, Nat.lt_of_lt_of_le hl hb.size⟩
theorem wordsL_snoc (v : Int) : ∀ (l : List ByteArray) (k : Nat) (s : ByteArray), wordsL v k (l ++ [s]) = wordsL v k l ++ (if (wordV s).2 then [(v + ((k + l.length : Nat) : Int), (wordV s).1)] else [])
  | [], k, s => by simp [wordsL]
  | a :: l, k, s => by
    simp only [List.cons_append, wordsL, wordsL_snoc v l (k + 1) s, List.append_assoc, List.length_cons]
    rw [show k + 1 + l.length = k + (l.length + 1) by omega]
theorem wordsL_len (v : Int) : ∀ (l : List ByteArray) (k : Nat), (wordsL v k l).length ≤ l.length
  | [], k => by simp [wordsL]
  | a :: l, k => by
    have := wordsL_len v l (k + 1)
    simp only [wordsL, List.length_append, List.length_cons]
    split <;> simp <;> omega
theorem wordsL_take (v : Int) (l : List ByteArray) (k : Nat) (hk : k < l.length) : wordsL v 0 (l.take (k + 1)) = wordsL v 0 (l.take k) ++ (if (wordV (l[k]'hk)).2 then [(v + (k : Int), (wordV (l[k]'hk)).1)] else []) := by
  rw [List.take_add_one, List.getElem?_eq_getElem hk, Option.toList_some, wordsL_snoc]
  rw [show (0 + (l.take k).length) = k by rw [List.length_take]; omega]

set_option maxRecDepth 100000 in
set_option maxHeartbeats 8000000 in
theorem each (px cs : Nat) (J : World → List (Int × Int) → (Nat → Prop) → Prop) (hS : Steps 40 #[.pointer (some ⟨px, 0, none⟩), .pointer (some ⟨cs, 0, none⟩)] J) (text : ByteArray) (xs : List ByteArray) (hx : Splits 10 text xs) (hsz : text.size < 4611686018427387904) (hok : xs.all lineE = true)
    (L0 : List (Int × Int)) (hlen : L0.length + (eachL xs).length ≤ 100000) (O0 : Nat → Prop) (w00 w : World) (hT : Tabs w00) (hB : Below w00.heap.size w00 w) (hOB : ∀ k, O0 k → w00.heap.size ≤ k) (hJ : J w L0 O0) :
    Calls Tryz.prog 57 #[.string text, .func (.func 40) #[] #[.pointer (some ⟨px, 0, none⟩), .pointer (some ⟨cs, 0, none⟩)]] w fun e w' => e = .returned (.tuple #[]) ∧ Idx.Free O0 w w' ∧ ∃ O, J w' (L0 ++ eachL xs) O ∧ ∀ k, O k → k < w.heap.size → O0 k := by
  have hO0 : ∀ k, O0 k → k < w.heap.size := fun k hk => hS.lt hJ hk
  refine (callsIn_wide (n := 3)).1 ?_
  refine callsIn_of_wp_marks Tryz.func57 rfl trivial ?_ rfl
  simp only [Tryz.ntmps57, List.size_toArray, List.length_cons, List.length_nil, Nat.reduceAdd, Nat.reduceSub, Array.replicate_succ, Array.replicate_zero, List.push_toArray, List.append_toArray, List.nil_append, List.cons_append]
  gi_wp2_with (refine ⟨trivial, ?_⟩; gi_at_call 75; refine (callsIn_wide.2 (split text ⟨#[10]⟩ _)).mono ?_; rintro e w' ⟨rfl, rfl⟩; dsimp only [iterV])
  obtain ⟨w0, hw0⟩ : ∃ w0, w0 = w.alloc (.cells #[.func (.func 40) #[] #[.pointer (some ⟨px, 0, none⟩), .pointer (some ⟨cs, 0, none⟩)]] 86) := ⟨_, rfl⟩
  have s0 : w0.heap.size = w.heap.size + 1 := by rw [hw0]; simp
  have b0 : Boxed w0 w.heap.size 86 (.func (.func 40) #[] #[.pointer (some ⟨px, 0, none⟩), .pointer (some ⟨cs, 0, none⟩)]) := by rw [hw0]; exact Boxed.new w _ _
  have w0b : Below w.heap.size w w0 := by rw [hw0]; exact (Below.refl _ w).alloc (Nat.le_refl _) _
  rw [← hw0]
  clear hw0
  have hsplit := iter_split 10 text xs hx hsz w0
  have eS : (iterW w0 text ⟨#[10]⟩).heap.size = w.heap.size + 4 := by rw [iterW_size, s0]
  have hbs := iterW_below w0 text ⟨#[10]⟩
  have hbw : Below w.heap.size w (iterW w0 text ⟨#[10]⟩) := w0b.trans (hbs.mono (by omega))
  have hbx : Boxed (iterW w0 text ⟨#[10]⟩) w.heap.size 86 (.func (.func 40) #[] #[.pointer (some ⟨px, 0, none⟩), .pointer (some ⟨cs, 0, none⟩)]) := (hbs.block _ (by omega)).trans b0
  rw [s0] at hsplit ⊢
  generalize iterW w0 text ⟨#[10]⟩ = W at *
  have h0 : EI J w (.func (.func 40) #[] #[.pointer (some ⟨px, 0, none⟩), .pointer (some ⟨cs, 0, none⟩)]) L0 O0 (W.heap.size + 2) [] W := ⟨⟨O0, by simpa [eachL] using hS.kept hJ hbw.size fun k hk => hbw.block k (hO0 k hk), fun k hk => .inl hk⟩, Idx.Free.of_below hbw, hbx⟩
  refine wpIn_range2 (b := w.heap.size + 1) rfl (enters_of Tryz.func99 (by kernel_rfl) rfl) (by omega) hsplit (fun h k j hj => (k j hj).trans (h j hj)) (fun X l o hl j hj => World.putObj_heap_other (by simp at hj; omega))
    (EI J w (.func (.func 40) #[] #[.pointer (some ⟨px, 0, none⟩), .pointer (some ⟨cs, 0, none⟩)]) L0 O0 (W.heap.size + 2)) (fun _ _ => False)
    ?_ ?_ ?_ ?_ ?_ h0
    (fun x => { tmps := #[.string text, .func (.func 40) #[] #[.pointer (some ⟨px, 0, none⟩), .pointer (some ⟨cs, 0, none⟩)], undef, .pointer (some ⟨w.heap.size, 0, none⟩), .string x, undef, undef, undef, undef, undef, undef, undef, .string text, .func (.func 99) #[] #[.pointer (some ⟨w.heap.size + 1 + 1, 0, none⟩), .pointer (some ⟨w.heap.size + 1, 0, none⟩), .pointer (some ⟨w.heap.size + 1 + 2, 0, none⟩)], .string x, undef, undef, undef, undef, undef, undef, undef, undef, undef, undef, undef, undef, undef, undef, undef, undef, undef, undef, undef, undef, undef, undef, undef, undef, undef, undef, undef, undef, undef, undef, undef], defers := [] })
    ?assign ?body ?done ?stop
  case assign =>
    intro l x X K hK
    gi_wp2
    exact hK
  case stop => exact fun D pre X _ h => h.elim
  case done =>
    rintro D X hD hE hK
    gi_wp2
    refine ⟨by simp, .inl ⟨_, _, rfl, run_takeDeferred hK, ?_⟩⟩
    have h2 := hE.step hS hO0 (putObj_free X D (.deferred none)) fun k e => by omega
    obtain ⟨O, hJ2, hO2⟩ := h2.ex
    exact ⟨.tuple #[], by simp [results, Tryz.results57, go_sem], rfl, h2.free, O, hJ2, fun k hk hl => (hO2 k hk).elim id fun h => by omega⟩
  case body =>
    rintro l pre x X hE hXs ⟨q, hq⟩
    have hlo : lineE x = true := List.all_eq_true.1 hok x (by rw [hq]; simp)
    have hX : Below w00.heap.size w00 X := hB.trans (hE.free.below hB.size hOB)
    have hTX : ∀ Y, Below w00.heap.size w00 Y → Tabs Y := fun Y hY => hT.below hY
    have hBs := hB.size
    obtain ⟨⟨O, hJ2, hO2⟩, hfr, hbox⟩ := hE
    have hlenX : (L0 ++ eachL pre).length + (lineL x).length ≤ 100000 := by
      have : (eachL xs).length = (eachL pre).length + ((lineL x).length + (eachL q).length) := by rw [hq]; simp [eachL]
      rw [List.length_append]
      omega
    have hfin : eachL (pre ++ [x]) = eachL pre ++ lineL x := eachL_snoc pre x
    have hlx : lineL x = wordsL (numV (fieldsG x)) 0 (fieldsG x).tail := rfl
    simp only [lineE, Bool.and_eq_true, decide_eq_true_eq] at hlo
    obtain ⟨hxs, hlo⟩ := hlo
    have cF := fields x X hxs (hTX X hX).asc (hTX X hX).white
    rw [hlx] at hfin hlenX
    clear hlx
    generalize fieldsG x = ws at cF hlo hfin hlenX
    cases ws with
    | nil => simp at hlo
    | cons h0 t =>
    simp only [Bool.and_eq_true, decide_eq_true_eq] at hlo
    obtain ⟨⟨⟨⟨⟨hh1, hh2⟩, hh3⟩, hwo⟩, ht1000⟩, htn⟩ := hlo
    obtain ⟨v, hv⟩ := Option.isSome_iff_exists.1 hh3
    have cP := fun Y => parse h0 v hv hh1 hh2 Y
    have hvb : v < 65536 := by
      have := hexV_lt _ _ _ hv
      have hl : h0.data.toList.length ≤ 4 := by rw [← Lib.size_eq]; exact hh2
      have hp := Nat.pow_le_pow_right (n := 16) (by decide) hl
      omega
    have hfv : numV (h0 :: t) = v := by simp [numV, hv]
    rw [hfv, List.tail_cons] at hfin hlenX
    clear hv hh3 hh2 hh1 hfv
    have cF2 : Calls Tryz.prog 76 #[.string x] X fun e w' => ∃ A, e = .returned (.slice (some ⟨A, 0, none⟩) (t.length + 1) (t.length + 1)) ∧ Aside (EW J X w' (L0 ++ eachL pre) v t O0 (W.heap.size + 2) A w' 0 ∧ (∀ i u, (h0 :: t)[i]? = some u → w'.cell? ⟨A, i, none⟩ = some (.string u))) := by
      refine cF.mono ?_
      rintro e w' ⟨A, rfl, hA, hrow, hb⟩
      have hlt := (hrow.lt A rfl).2
      refine ⟨A, rfl, ⟨⟨O, ?_, hO2, fun h => by have := hS.lt hJ2 h; omega⟩, Idx.Free.of_below hb, rfl, hlt⟩, fun i u hu => ?_⟩
      · simpa [wordsL] using hS.kept hJ2 hb.size fun k hk => hb.block k (hS.lt hJ2 hk)
      · have := hrow.cells (g := A) rfl i (.string u) (by rw [List.getElem?_map, hu]; rfl)
        rwa [Addr.add_lit, Nat.zero_add] at this
    have HF : Aside (eachL (pre ++ [x]) = eachL pre ++ wordsL (v : Int) 0 t ∧ (L0 ++ eachL pre).length + (wordsL (v : Int) 0 t).length ≤ 100000 ∧ xs = pre ++ x :: q) := ⟨hfin, hlenX, hq⟩
    have HX : Aside (Below w00.heap.size w00 X ∧ ∀ Y, Below w00.heap.size w00 Y → Tabs Y) := ⟨hX, hTX⟩
    have HO : Aside (∀ k, O0 k → k < w.heap.size) := hO0
    have HB : Aside (∀ k, O0 k → w00.heap.size ≤ k) := hOB
    have HW : Aside (t.all wordE = true) := hwo
    have HFR : Aside (Idx.Free O0 w X) := hfr
    clear hfin hlenX hq hX hTX cF hwo hJ2 hO2 hfr hxs
    have HXW : Aside (∀ Y k, EW J X Y (L0 ++ eachL pre) v t O0 (W.heap.size + 2) 0 Y k → True) := fun _ _ _ => trivial
    clear HXW
    gi_wp2_with (first
      | (refine ⟨trivial, ?_⟩; gi_at_call 76; refine (CallsIn.inRound l (callsIn_wide.2 cF2)).mono ?_; rintro e X1 ⟨A, rfl, hA⟩; have cA : X1.cell? ⟨A, 0, none⟩ = some (.string h0) := hA.out.2 0 h0 rfl)
      | (refine ⟨trivial, ?_⟩; gi_at_call 77; refine (CallsIn.inRound l (callsIn_wide.2 (cP _))).mono ?_; rintro e X2 ⟨rfl, hb2⟩; have hA2 : Aside (EW J X X1 (L0 ++ eachL pre) v t O0 (W.heap.size + 2) A X2 0) := hA.out.1.below hS hb2; have hA1 : Aside (∀ i u, (h0 :: t)[i]? = some u → X1.cell? ⟨A, i, none⟩ = some (.string u)) := hA.out.2; clear hA cA cF2 cP hb2))
    gi_loopg [27] t.length (fun g1 vi wr => ∃ (k : Nat), vi = .int .i64 k ∧ k ≤ t.length ∧ t.length - k ≤ g1 ∧ Aside (EW J X X1 (L0 ++ eachL pre) v t O0 (W.heap.size + 2) A wr k))
    case atStart => exact ⟨0, rfl, by omega, by omega, hA2⟩
    case round =>
      clear hA2
      obtain ⟨k, rfl, hk, hg1, HA⟩ := hrel
      by_cases hlt : k < t.length
      · have hltz : (k : Int) < (t.length : Int) := by omega
        have hcell : wr.cell? ⟨A, 1 + k, none⟩ = some (.string (t[k]'hlt)) := by
          rw [World.cell?_of_block (w := X1) (a := ⟨A, 1 + k, none⟩) HA.out.row, Nat.add_comm 1 k]
          exact hA1.out (k + 1) _ (by rw [List.getElem?_cons_succ, List.getElem?_eq_getElem hlt])
        have hwe : wordE (t[k]'hlt) = true := List.all_eq_true.1 HW.out _ (List.getElem_mem hlt)
        have hwk := hwe
        simp only [wordE, Bool.and_eq_true, decide_eq_true_eq] at hwk
        have hpub : ∀ Y, EW J X X1 (L0 ++ eachL pre) v t O0 (W.heap.size + 2) A Y k → Below w00.heap.size w00 Y := fun Y hY => HX.out.1.trans (hY.free.below HX.out.1.size fun i hi => hi.elim (HB.out i) fun h => by omega)
        have cWd : Calls Tryz.prog 78 #[.string (t[k]'hlt)] wr fun e w' => e = .returned (.tuple #[.int .i32 (wordV (t[k]'hlt)).1, .bool (wordV (t[k]'hlt)).2]) ∧ w'.cell? ⟨w.heap.size, 0, none⟩ = some (.func (.func 40) #[] #[.pointer (some ⟨px, 0, none⟩), .pointer (some ⟨cs, 0, none⟩)]) ∧ Aside (EW J X X1 (L0 ++ eachL pre) v t O0 (W.heap.size + 2) A w' k) := by
          refine (word _ hwk.1 wr (HX.out.2 wr (hpub wr HA.out)).utf).mono ?_
          rintro e w' ⟨rfl, hb⟩
          have h2 := HA.out.below hS hb
          have hbx2 : Boxed w' w.heap.size 86 (.func (.func 40) #[] #[.pointer (some ⟨px, 0, none⟩), .pointer (some ⟨cs, 0, none⟩)]) := (h2.free.block _ hbox.lt fun h => by rcases h with h | h; (have := HO.out _ h; omega); omega).trans hbox
          exact ⟨rfl, hbx2.cell, h2⟩
        have hnext : wordsL (v : Int) 0 (t.take (k + 1)) = wordsL (v : Int) 0 (t.take k) ++ (if (wordV (t[k]'hlt)).2 then [((v : Int) + (k : Int), (wordV (t[k]'hlt)).1)] else []) := wordsL_take v t k hlt
        have hsk : (wordV (t[k]'hlt)).2 = false → ∀ Y, EW J X X1 (L0 ++ eachL pre) v t O0 (W.heap.size + 2) A Y k → EW J X X1 (L0 ++ eachL pre) v t O0 (W.heap.size + 2) A Y (k + 1) := fun h0 Y hY => by
          obtain ⟨⟨O2, j1, j2, j3⟩, hY2, hY3, hY4⟩ := hY
          refine ⟨⟨O2, ?_, j2, j3⟩, hY2, hY3, hY4⟩
          rw [hnext, h0]
          simpa using j1
        have hdo : (wordV (t[k]'hlt)).2 = true → ∀ Y, EW J X X1 (L0 ++ eachL pre) v t O0 (W.heap.size + 2) A Y k → Calls Tryz.prog 40 #[.int .i64 ((v : Int) + (k : Int)), .int .i32 (wordV (t[k]'hlt)).1, .pointer (some ⟨px, 0, none⟩), .pointer (some ⟨cs, 0, none⟩)] Y fun e w' => e = .returned (.tuple #[]) ∧ Aside (EW J X X1 (L0 ++ eachL pre) v t O0 (W.heap.size + 2) A w' (k + 1)) := fun h0 Y hY => by
          obtain ⟨⟨O2, j1, j2, j3⟩, hY2, hY3, hY4⟩ := hY
          have hl1 : (L0 ++ eachL pre ++ wordsL (v : Int) 0 (t.take k)).length ≤ 100000 := by
            have h1 := HF.out.2.1
            have h2 : (wordsL (v : Int) 0 (t.take k)).length ≤ (wordsL (v : Int) 0 t).length := by
              conv => rhs; rw [← List.take_append_drop k t]
              clear hnext hwe hwk cWd hcell h1
              generalize t.drop k = d
              generalize t.take k = c
              induction d generalizing c with
              | nil => simp
              | cons a d ih =>
                have := ih (c ++ [a])
                rw [wordsL_snoc, List.append_assoc, List.singleton_append] at this
                rw [List.length_append] at this
                omega
            rw [List.length_append]
            omega
          refine (hS.step ((v : Int) + (k : Int)) (wordV (t[k]'hlt)).1 j1 hl1 hwk.2.1 hwk.2.2 (by omega) (by omega)).mono ?_
          rintro e w' ⟨rfl, hf, O3, j4, j5⟩
          have hlO : ∀ i, O2 i → O0 i ∨ W.heap.size + 2 ≤ i := j2
          refine ⟨rfl, ⟨O3, ?_, fun i hi => ?_, fun h => j3 (j5 A h hY4)⟩, hY2.trans hf fun i hi _ => j2 i hi, (hf.block A hY4 j3).trans hY3, Nat.lt_of_lt_of_le hY4 hf.size⟩
          · rw [hnext, h0, if_pos rfl, ← List.append_assoc]
            exact j4
          · by_cases hl : i < Y.heap.size
            · exact j2 i (j5 i hi hl)
            · right
              have := hY2.size
              omega
        clear hnext hwe hwk
        generalize wordV (t[k]'hlt) = R at cWd hsk hdo
        obtain ⟨rx, ry⟩ := R
        simp only at cWd hsk hdo
        cases ry with
        | false =>
          have hs2 : Aside (∀ Y, EW J X X1 (L0 ++ eachL pre) v t O0 (W.heap.size + 2) A Y k → EW J X X1 (L0 ++ eachL pre) v t O0 (W.heap.size + 2) A Y (k + 1)) := hsk rfl
          clear hsk hdo hpub HA
          gi_wp2_with (refine ⟨trivial, ?_⟩; gi_at_call 78; refine (CallsIn.inRound l (callsIn_wide.2 cWd)).mono ?_; rintro e X3 ⟨rfl, hcb, hA3⟩; clear cWd)
          gi_roundg (t.length - (k + 1))
          case measure => omega
          case rel => exact ⟨k + 1, by first | rfl | go_num, by omega, by omega, hs2.out _ hA3.out⟩
        | true =>
          have hd2 : Aside (∀ Y, EW J X X1 (L0 ++ eachL pre) v t O0 (W.heap.size + 2) A Y k → Calls Tryz.prog 40 #[.int .i64 ((v : Int) + (k : Int)), .int .i32 rx, .pointer (some ⟨px, 0, none⟩), .pointer (some ⟨cs, 0, none⟩)] Y fun e w' => e = .returned (.tuple #[]) ∧ Aside (EW J X X1 (L0 ++ eachL pre) v t O0 (W.heap.size + 2) A w' (k + 1))) := hdo rfl
          clear hsk hdo hpub HA
          gi_wp2_with (first
            | (refine ⟨trivial, ?_⟩; gi_at_call 78; refine (CallsIn.inRound l (callsIn_wide.2 cWd)).mono ?_; rintro e X3 ⟨rfl, hcb, hA3⟩; clear cWd)
            | (refine ⟨trivial, ?_⟩; gi_at_call 40; refine (CallsIn.inRound l (callsIn_wide.2 (hd2.out _ hA3.out))).mono ?_; rintro e X4 ⟨rfl, hA4⟩; clear hd2))
          gi_roundg (t.length - (k + 1))
          case measure => omega
          case rel => exact ⟨k + 1, by first | rfl | go_num, by omega, by omega, hA4⟩
      · have hltz : ¬ (k : Int) < (t.length : Int) := by omega
        obtain rfl : k = t.length := by omega
        gi_wp2
        obtain ⟨⟨O2, j1, j2, j3⟩, hY2, hY3, hY4⟩ := HA.out
        have hHO := HO.out
        have hpr : ∀ i, w.heap.size ≤ i → i < W.heap.size + 2 → wr.heap[i]? = X.heap[i]? := fun i h1 h2 => hY2.block i (by omega) fun h => by
          rcases h with h | h
          · have := hHO i h; omega
          · omega
        refine ⟨⟨hY2.size, hpr _ (by omega) (by omega), hpr _ (by omega) (by omega)⟩, fun k hk => hpr k ?_ ?_, ⟨O2, ?_, fun k hk => (j2 k hk).imp id fun h => by omega⟩, ?_, ?_⟩
        · simp at hk; omega
        · simp at hk; omega
        · rw [HF.out.1, ← List.append_assoc]
          rw [List.take_length] at j1
          exact j1
        · exact HFR.out.trans hY2 fun i hi hl => hi.elim id fun h => by omega
        · exact (hpr w.heap.size (Nat.le_refl _) (by omega)).trans hbox
  · exact fun s A B h hg => h.step hS hO0 (Idx.Free.of_grown hg (O := fun k => k = w.heap.size + 1) fun k e => by injection e with e; exact e.symm) fun k hk => by omega
  · exact fun s A l o hl h => h.step hS hO0 (putObj_free A l o) fun k hk => by omega
  · exact fun s A B h hg => h.elim
  · exact fun s A l o hl h => h.elim
  · exact fun s A o h => h.step hS hO0 (Idx.Free.of_grown (World.grownBy_alloc A o none) (O := fun _ => False) fun k e => by cases e) fun k hk => hk.elim
end Go.Proofs.YtemhfcgkfdklhaaGreatDoor.Look
