/- pairs.number; what pairs.New gathers. -/
import Derived.Laws.IdiomStrings
import Derived.Maps.OwnIn
import Derived.Shelf.RegionOpen
import Derived.LoopIn
import Derived.Lib.SmallJoins
import Derived.OwnWalkIn
import Derived.RangeFuncBox
import Derived.RangeFuncNested
import Derived.Test.YtkadmnabhoijdaaDoorCut
import Derived.Test.YtkadmnabhoijdaaDoorReg
set_option linter.unusedVariables false
namespace Go.Proofs.YtkadmnabhoijdaaDoor.New
open Go Go.RowKit Go.Shelf Go.Proofs Go.Proofs.YtkadmnabhoijdaaDoor.Seq Go.Proofs.YtkadmnabhoijdaaDoor.Hex
attribute [local go_sem] Oper.semAt_some

set_option maxHeartbeats 4000000 in
set_option maxRecDepth 100000 in
theorem number (s : ByteArray) (v : Nat) (hv : hexV 0 s.data.toList = some v) (h1 : s.size ≠ 0) (h2 : s.size ≤ 4) (hb : v < 65536) (w : World) :
    Calls Tryd.prog 33 #[.string s] w fun e w' => e = .returned (.int .i32 v) ∧ Below w.heap.size w w' := by
  have cP := parse s v hv h1 h2 w
  have hw : wrap32 (v : Int) = v := by unfold wrap32; omega
  go_enter Tryd.func33, Tryd.ntmps33
  go_wp2_with (go_at_call 42; refine cP.mono ?_; rintro e w' ⟨rfl, hb⟩)
  go_ret
  exact ⟨rfl, hb⟩

/-- The library's tables that strings.Fields reads. -/
structure TabsN (w : World) : Prop where
  asc : Lib.TabIs Tryd.prog w "strings.asciiSpace" .u8 Lib.asciiSpaceTab
  white : Lib.WhiteTab 1 w
theorem TabsN.below {w w' : World} (h : TabsN w) (hb : Below w.heap.size w w') : TabsN w' :=
  ⟨Go.Joins.tab_stays (g := 0) (by kernel_rfl) h.asc hb (Nat.le_refl _), WhiteTab_below h.white hb⟩

/-- A pair: what it is, its two parts, whether it is joined. -/
abbrev P4 := Int × Int × Int × Bool
def enc4 (p : P4) : List Value := [.int .i32 p.1, .int .i32 p.2.1, .int .i32 p.2.2.1, .bool p.2.2.2]
def cells4 (l : List P4) : List Value := l.flatMap enc4
theorem cells4_length (l : List P4) : (cells4 l).length = l.length * 4 := by
  induction l with
  | nil => rfl
  | cons x t ih => simp only [cells4, List.flatMap_cons, List.length_append] at ih ⊢; rw [ih]; simp [enc4]; omega
theorem cells4_snoc (l : List P4) (p : P4) : cells4 (l ++ [p]) = cells4 l ++ enc4 p := by simp [cells4]

/-- The pairs that are gathered so far: in the boxed variable B, a row of the call's own, at no block of 'avoid'. -/
def OutIs (W : World) (B base : Nat) (avoid : List Nat) (l : List P4) : Prop :=
  ∃ v, Boxed W B 39 v ∧ W.ownsRow base 59 4 v l.length (cells4 l) ∧ ∀ k ∈ avoid, v.ownBlock ≠ some k

/-- What a round may turn: the variable's cell and the gathered row. -/
structure Touch (B base : Nat) (avoid : List Nat) (A A' : World) : Prop where
  os : A'.os = A.os
  tape : A'.tape = A.tape
  output : A'.output = A.output
  size : A.heap.size ≤ A'.heap.size
  block : ∀ k o, A.heap[k]? = some o → k ≠ B → (k < base ∨ k ∈ avoid ∨ o.isCells = false) → A'.heap[k]? = some o
theorem Touch.refl (B base : Nat) (avoid : List Nat) (A : World) : Touch B base avoid A A := ⟨rfl, rfl, rfl, Nat.le_refl _, fun _ _ h _ _ => h⟩
theorem Touch.trans {B base : Nat} {avoid : List Nat} {A1 A2 A3 : World} (h : Touch B base avoid A1 A2) (k : Touch B base avoid A2 A3) : Touch B base avoid A1 A3 :=
  ⟨k.os.trans h.os, k.tape.trans h.tape, k.output.trans h.output, Nat.le_trans h.size k.size, fun i o hi hn hc => k.block i o (h.block i o hi hn hc) hn hc⟩
theorem Touch.of_below {B base : Nat} {avoid : List Nat} {A A' : World} (h : Below A.heap.size A A') : Touch B base avoid A A' :=
  ⟨h.os, h.tape, h.output, h.size, fun k o hk _ _ => (h.block k (Array.getElem?_eq_some_iff.1 hk).1).trans hk⟩
theorem Touch.store {B base : Nat} {avoid : List Nat} (A : World) (v : Value) : Touch B base avoid A (A.setCell ⟨B, 0, none⟩ v) :=
  ⟨rfl, rfl, rfl, by simp, fun k o hk hn _ => (Below.heap_setCell _ _ _ _ hn).trans hk⟩
theorem Touch.others {B base : Nat} {avoid : List Nat} {A A' : World} (h : Touch B base avoid A A') (hB : ∀ o, A.heap[B]? = some o → o.isCells = true) : KeepsOthers A A' :=
  ⟨h.size, fun k o hk hc => h.block k o hk (fun e => by subst e; rw [hB o hk] at hc; cases hc) (.inr (.inr hc))⟩

theorem OutIs.grown {W W' : World} {B base b : Nat} {av : List Nat} {l : List P4} (h : OutIs W B base av l) (hg : W.grownBy W' (some b)) (h1 : b ≠ B) (h2 : b < base) : OutIs W' B base av l := by
  obtain ⟨v, hb, ho, ha⟩ := h
  refine ⟨v, hb.kept hg (by simpa using fun e => h1 e.symm), ho.kept hg ?_, ha⟩
  refine .inr fun e => ?_
  have := (ho.lt b e).1
  omega
theorem OutIs.kept {W W' : World} {B base : Nat} {av : List Nat} {l : List P4} (h : OutIs W B base av l) (hg : W.grownBy W' none) : OutIs W' B base av l := by
  obtain ⟨v, hb, ho, ha⟩ := h
  exact ⟨v, hb.kept hg (by simp), ho.kept hg (Classical.em _), ha⟩
theorem OutIs.put {W : World} {B base k : Nat} {av : List Nat} {l : List P4} (h : OutIs W B base av l) (o : Obj) (h1 : k ≠ B) (h2 : k ∈ av) : OutIs (W.putObj k o) B base av l := by
  obtain ⟨v, hb, ho, ha⟩ := h
  have hg := grownBy_putObj' W k o
  exact ⟨v, hb.kept hg (by simpa using fun e => h1 e.symm), ho.kept hg (.inr (ha k h2)), ha⟩
theorem OutIs.shun {W : World} {B base k : Nat} {av : List Nat} {l : List P4} (h : OutIs W B base av l) (hk : W.heap.size ≤ k) : OutIs W B base (av ++ [k]) l := by
  obtain ⟨v, hb, ho, ha⟩ := h
  refine ⟨v, hb, ho, fun j hj => ?_⟩
  rcases List.mem_append.1 hj with h | h
  · exact ha j h
  · intro e
    have := (ho.lt j e).2
    simp at h
    omega
theorem OutIs.shunAll {W : World} {B base : Nat} {av ks : List Nat} {l : List P4} (h : OutIs W B base av l) (hk : ∀ k ∈ ks, W.heap.size ≤ k) : OutIs W B base ks l := by
  obtain ⟨v, hb, ho, ha⟩ := h
  refine ⟨v, hb, ho, fun j hj e => ?_⟩
  have := (ho.lt j e).2
  have := hk j hj
  omega
theorem OutIs.grownAv {W W' : World} {B base b : Nat} {av : List Nat} {l : List P4} (h : OutIs W B base av l) (hg : W.grownBy W' (some b)) (h1 : b ≠ B) (h2 : b ∈ av) : OutIs W' B base av l := by
  obtain ⟨v, hb, ho, ha⟩ := h
  exact ⟨v, hb.kept hg (by simpa using fun e => h1 e.symm), ho.kept hg (.inr (ha b h2)), ha⟩
theorem OutIs.less {W : World} {B base : Nat} {av av' : List Nat} {l : List P4} (h : OutIs W B base av l) (hs : ∀ k ∈ av', k ∈ av) : OutIs W B base av' l := by
  obtain ⟨v, hb, ho, ha⟩ := h
  exact ⟨v, hb, ho, fun k hk => ha k (hs k hk)⟩
theorem grown_none {W W' : World} (h : Below W.heap.size W W') : W.grownBy W' none := ⟨h.os, h.tape, h.output, h.size, fun k hk _ => h.block k hk⟩

theorem convRunes (l : ByteArray) (rs : List Int) (hr : Conv.runesFrom l l.size 0 #[] = (rs.map (Value.int .i32)).toArray) (hl : rs.length ≤ 4096) (W : World) :
    ∃ cap W', (convert 9 22 (.string l)).run Tryd.prog W = .ok (.slice (some ⟨W.heap.size, 0, none⟩) rs.length cap) W' ∧ Below W.heap.size W W' ∧ W.heap.size < W'.heap.size ∧
      ∀ j x, rs[j]? = some x → W'.cell? ⟨W.heap.size, j, none⟩ = some (.int .i32 x) := by
  have h := run_runes_of_string (P := Tryd.prog) W 9 22 21 l (by kernel_rfl) (by kernel_rfl) (by kernel_rfl) (by rw [hr]; simp; omega)
  rw [hr] at h
  simp only [List.size_toArray, List.length_map] at h
  refine ⟨_, _, h, ⟨rfl, rfl, rfl, by rw [World.size_alloc]; exact Nat.le_succ _, fun k hk => Below.heap_alloc _ _ _ hk⟩, by rw [World.size_alloc]; exact Nat.lt_succ_self _, fun j x hj => ?_⟩
  have hn := World.alloc_heap_new W.drew (.cells ((rs.map (Value.int .i32)).toArray ++ Array.replicate (grownCap W rs.length 0 21 - rs.length) (.int .i32 0)) 21)
  rw [show W.drew.heap.size = W.heap.size from rfl] at hn
  simp only [World.cell?, hn]
  have hlt := (List.getElem?_eq_some_iff.1 hj).1
  rw [Array.getElem?_append_left (by simpa using hlt)]
  simp [hj]

theorem fourCells (w : World) (a b c : Int) (d : Bool) (t : TypeId) : ∀ j u, (enc4 (a, b, c, d))[j]? = some u → (w.alloc (.cells #[.int .i32 a, .int .i32 b, .int .i32 c, .bool d] t)).cell? ((⟨w.heap.size, 0, none⟩ : Addr).add j) = some u := by
  intro j u hj
  match j, hj with
  | 0, hj => simp [enc4] at hj; subst hj; simp [Addr.add]
  | 1, hj => simp [enc4] at hj; subst hj; simp [Addr.add]
  | 2, hj => simp [enc4] at hj; subst hj; simp [Addr.add]
  | 3, hj => simp [enc4] at hj; subst hj; simp [Addr.add]
  | (j + 4), hj => simp [enc4] at hj
theorem Touch.cell {B base k j : Nat} {av : List Nat} {A A' : World} {v : Value} (h : Touch B base av A A') (hk : k ≠ B) (hm : k ∈ av) (hc : A.cell? ⟨k, j, none⟩ = some v) : A'.cell? ⟨k, j, none⟩ = some v := by
  obtain ⟨o, ho⟩ : ∃ o, A.heap[k]? = some o := ⟨_, Array.getElem?_eq_getElem (World.block_lt_of_cell? A ⟨k, j, none⟩ hc)⟩
  exact (World.cell?_of_block (w := A) ((h.block k o ho hk (.inr (.inl hm))).trans ho.symm)).trans hc
theorem boxNe {W : World} {B base n : Nat} {v v' : Value} {size : Nat} {xs : List Value} (hB : Boxed W B 39 v) (ho : W.ownsRow base 59 size v' n xs) : some B ≠ v'.ownBlock := by
  rcases ho.2 with ⟨rfl, _⟩ | ⟨g, cap, cur, rfl, _, hg, _⟩
  · simp [Value.ownBlock]
  · intro e
    simp only [Value.ownBlock, Option.some.injEq] at e
    subst e
    rw [Boxed] at hB
    rw [hB] at hg
    injection hg with h1
    injection h1 with h2 h3
    exact absurd h3 (by decide)
theorem touch_append {A A' : World} {B base n size : Nat} {av : List Nat} {v : Value} {xs : List Value} (ho : A.ownsRow base 59 size v n xs) (ha : ∀ k ∈ av, v.ownBlock ≠ some k) (hg : A.grownBy A' v.ownBlock) : Touch B base av A A' := by
  refine ⟨hg.os, hg.tape, hg.output, hg.size, fun k o hk hn hc => (hg.block k (Array.getElem?_eq_some_iff.1 hk).1 fun e => ?_).trans hk⟩
  rcases hc with h | h | h
  · have := (ho.lt k e.symm).1
    omega
  · exact ha k h e.symm
  · rcases ho.2 with ⟨rfl, _⟩ | ⟨g, cap, cur, rfl, _, hgg, _⟩
    · simp [Value.ownBlock] at e
    · simp only [Value.ownBlock, Option.some.injEq] at e
      subst e
      rw [hk] at hgg
      cases hgg
      simp [Obj.isCells] at h
theorem Touch.below {B base N : Nat} {av : List Nat} {w A A' : World} (h : Touch B base av A A') (hb : Below N w A) (h1 : N ≤ B) (h2 : N ≤ base) (h3 : N ≤ w.heap.size := by omega) : Below N w A' := by
  refine ⟨h.os.trans hb.os, h.tape.trans hb.tape, h.output.trans hb.output, Nat.le_trans hb.size h.size, fun k hk => ?_⟩
  obtain ⟨o, ho⟩ : ∃ o, w.heap[k]? = some o := ⟨_, Array.getElem?_eq_getElem (by omega)⟩
  rw [ho]
  exact h.block k o ((hb.block k hk).trans ho) (by omega) (.inl (by omega))
theorem others_of_below {W W' : World} (h : Below W.heap.size W W') : KeepsOthers W W' := ⟨h.size, fun k o hk _ => (h.block k (Array.getElem?_eq_some_iff.1 hk).1).trans hk⟩
theorem iPair : (Tryd.prog.info? 59).map (fun i => (i.zero, i.size, i.bytes)) = some (some (.agg #[.int .i32 0, .int .i32 0, .int .i32 0, .bool false]), 4, 16) := by kernel_rfl
end Go.Proofs.YtkadmnabhoijdaaDoor.New
