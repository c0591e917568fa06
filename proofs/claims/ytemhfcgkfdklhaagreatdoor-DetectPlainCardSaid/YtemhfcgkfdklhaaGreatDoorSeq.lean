/- A range over a function whose iterator stores into a cell of its own (what its closure captured) between two rounds: the iterator's contract, and the law of the statement. Any program. -/
import Derived.RangeFuncOwn
import Derived.RangeFuncFrom
import Derived.RangeFuncCalls
import Derived.RangeFuncLeaves
import Derived.Shelf.Abstract
import Derived.WalkKit
import Derived.TacticsIn
import Derived.RegionIn
import Derived.Test.YtemhfcgkfdklhaaGreatDoorProg
namespace Go.Proofs.YtemhfcgkfdklhaaGreatDoor.Seq
open Go Go.RowKit Go.Shelf
variable {P : Program}

/-- The caller's invariant does not mind a step of the iterator: new blocks, draws, a store into block b. -/
def Steady (b : Nat) (J : List ByteArray → World → Prop) : Prop := ∀ s W W', J s W → W.grownBy W' (some b) → J s W'
/-- Nor a turn of block B (the loop's record). -/
def Beyond (B : Nat) (J : List ByteArray → World → Prop) : Prop := ∀ s W l o, l = B → J s W → J s (W.putObj l o)

/-- THE ITERATOR's CONTRACT: called at any yield whose rounds keep what Kp says, with a caller's invariant J that its own steps do not touch, it has handed over all of 'xs' (J xs holds), or it was stopped (Jx). -/
def SeqCell (P : Program) (g : Nat) (lb : Array Value) (b : Nat) (Kp : World → World → Prop) (xs : List ByteArray) (w : World) : Prop :=
  ∀ (n l : Nat) (J Jx : List ByteArray → World → Prop) (W : World), Below w.heap.size w W → Steady b J → Steady b Jx →
    (∀ pre x W1, J pre W1 → (∃ post, xs = pre ++ x :: post) → YieldAt Fence.wide (n - 1) P l #[.string x] W1 fun e W' =>
      (e = .returned (.bool true) ∧ J (pre ++ [x]) W' ∧ Kp W1 W') ∨ (e = .returned (.bool false) ∧ Jx (pre ++ [x]) W')) →
    J [] W →
    CallsIn Fence.wide n P g (#[.func (.yield l) #[] #[]] ++ lb) W fun e W' => (∃ v, e = .returned v) ∧ (J xs W' ∨ (∃ pre, Jx pre W'))

/-- How the body of a round may be left. -/
def post (Kp : World → World → Prop) (I Ix : List ByteArray → World → Prop) (xs : List ByteArray) (W : World) : Exit → Act → World → Prop
  | .normal, _, W' => KeepsOthers W W' ∧ Kp W W' ∧ I xs W'
  | .ret, _, W' => KeepsOthers W W' ∧ Ix xs W'
  | _, _, _ => False

theorem grown_other {W W' : World} {b k : Nat} {o : Obj} (hg : W.grownBy W' (some b)) (hk : W.heap[k]? = some o) (hne : k ≠ b) : W'.heap[k]? = some o :=
  (hg.block k (Array.getElem?_eq_some_iff.1 hk).1 (fun e => hne (by injection e))).trans hk

theorem wpIn_range {n : Nat} {g : Operand} {p : Tmp} {assign body : Code} {Q : Exit → Act → World → Prop} {a : Act} {w : World}
    {gf : Nat} {lb : Array Value} (hg : a.eval g = .func (.func gf) #[] lb) (eg : ∀ args w, (callFunc gf args).run P w = .ok (.enter gf args) w)
    {b : Nat} (hb : b < w.heap.size) {Kp : World → World → Prop} {xs : List ByteArray} (hseq : SeqCell P gf lb b Kp xs w)
    (hKt : ∀ {A B C : World}, Kp A B → Kp B C → Kp A C) (hKb : ∀ (W : World) (l : Nat) (o : Obj), w.heap.size ≤ l → Kp W (W.putObj l o))
    (I Ix : List ByteArray → World → Prop) (hI : Steady b I) (hI2 : Beyond (w.heap.size + 1) I) (hIx : Steady b Ix) (hIx2 : Beyond (w.heap.size + 1) Ix) (hIa : ∀ s W o, I s W → I s (W.alloc o)) (h0 : I [] w) (a₁ : ByteArray → Act)
    (hassign : ∀ (l : Nat) (x : ByteArray) (W : World) (K : Act → World → Prop), K (a₁ x) W →
      assign.wpIn (Fence.wide.inRound l) (n - 1 - 1) P (Exit.then K (fun _ _ _ => False)) { tmps := a.tmps.setIfInBounds p (.string x), defers := [] } W)
    (hbody : ∀ (l : Nat) (pre : List ByteArray) (x : ByteArray) (W : World), I pre W → w.heap.size + 2 ≤ W.heap.size → (∃ q, xs = pre ++ x :: q) → body.wpIn (Fence.wide.inRound l) (n - 1 - 1) P (post Kp I Ix (pre ++ [x]) W) (a₁ x) W)
    (hdone : ∀ (D : Nat) (W : World), w.heap.size ≤ D → I xs W → W.heap[D]? = some (.deferred (some [])) → Q .normal { a with defers := { target := .collected D, args := #[] } :: a.defers } W)
    (hstop : ∀ (D : Nat) (pre : List ByteArray) (W : World), w.heap.size ≤ D → Ix pre W → W.heap[D]? = some (.deferred (some [])) → Code.ret.wpIn Fence.wide n P Q { a with defers := { target := .collected D, args := #[] } :: a.defers } W) :
    (Code.rangeFunc g #[p] assign body).wpIn Fence.wide n P Q a w := by
  refine wpIn_rangeFunc fun fn hfn => ?_
  -- the record of the loop, by its state and its jump
  let rec_ : LoopState → Option Code → Loop := fun st pe => { state := st, pending := pe, fn := fn, tmps := a.tmps, params := #[p], assign := assign, body := body, defers := w.heap.size }
  let W1 : World := (w.alloc (.deferred (some []))).alloc (.loop (rec_ .ready none))
  have hL1 : W1.heap[w.heap.size + 1]? = some (.loop (rec_ .ready none)) := by
    have := World.alloc_heap_new (w.alloc (.deferred (some []))) (.loop (rec_ .ready none))
    rwa [World.size_alloc] at this
  have hD1 : W1.heap[w.heap.size]? = some (.deferred (some [])) := (Below.heap_alloc _ _ _ (by simp)).trans (World.alloc_heap_new w _)
  have hB1 : Below w.heap.size w W1 := ((Below.refl _ w).alloc (Nat.le_refl _) _).alloc (by simp) _
  refine ⟨w.heap.size + 1, [{ target := .collected w.heap.size, args := #[] }], W1, { target := .fn (.func gf) lb, args := #[.func (.yield (w.heap.size + 1)) #[] #[]] }, W1, gf,
    #[.func (.yield (w.heap.size + 1)) #[] #[]] ++ lb, W1, run_enterLoop_outer _ _ _ _ _, ?_, fun _ _ => trivial, by simp [invoke, go_sem, eg], fun h => by simp [Fence.wide] at h, ?_⟩
  · simp only [resolve, hg]
    simp [go_sem]
  -- the iterator, at the caller's invariant and the two blocks of the loop's own
  refine (hseq (n - 1) (w.heap.size + 1)
    (fun pre W => I pre W ∧ W.heap[w.heap.size + 1]? = some (.loop (rec_ .ready none)) ∧ W.heap[w.heap.size]? = some (.deferred (some [])))
    (fun pre W => Ix pre W ∧ W.heap[w.heap.size + 1]? = some (.loop (rec_ .done (some .ret))) ∧ W.heap[w.heap.size]? = some (.deferred (some [])))
    W1 hB1
    (fun s A B hs hgr => ⟨hI s A B hs.1 hgr, grown_other hgr hs.2.1 (by omega), grown_other hgr hs.2.2 (by omega)⟩)
    (fun s A B hs hgr => ⟨hIx s A B hs.1 hgr, grown_other hgr hs.2.1 (by omega), grown_other hgr hs.2.2 (by omega)⟩)
    ?round ⟨hIa _ _ _ (hIa _ _ _ h0), hL1, hD1⟩).mono ?behind
  case round =>
    rintro pre x W ⟨hi, hl, hd⟩ hx
    have hlt := (Array.getElem?_eq_some_iff.1 hl).1
    have hy := run_yield (P := P) (args := #[.string x]) hl rfl
    refine ⟨fn, a.tmps.setIfInBounds p (.string x), assign, body, by simpa [rec_] using hy, roundIn_of_wpIn hfn (hassign _ x W _ ?_)⟩
    refine ⟨_, run_beginRound hl rfl, ?_⟩
    -- the record is busy while the body runs
    have hl2 : (W.putObj (w.heap.size + 1) (.loop (rec_ .busy none))).heap[w.heap.size + 1]? = some (.loop (rec_ .busy none)) := World.putObj_heap_same hlt
    have hd2 : (W.putObj (w.heap.size + 1) (.loop (rec_ .busy none))).heap[w.heap.size]? = some (.deferred (some [])) := (World.putObj_heap_other (by omega)).trans hd
    refine wpIn_mono (hbody _ pre x _ (hI2 _ _ _ _ (by omega) hi) (Array.getElem?_eq_some_iff.1 hl2).1 hx) ?_
    rintro e a3 W3 hp
    have fin : ∀ jump : Option Code, KeepsOthers (W.putObj (w.heap.size + 1) (.loop (rec_ .busy none))) W3 →
        (Instr.endRound (w.heap.size + 1) jump).run P W3 = .ok (.bool jump.isNone) (W3.putObj (w.heap.size + 1) (.loop (rec_ (if jump.isNone then .ready else .done) jump))) ∧
        (W3.putObj (w.heap.size + 1) (.loop (rec_ (if jump.isNone then .ready else .done) jump))).heap[w.heap.size + 1]? = some (.loop (rec_ (if jump.isNone then .ready else .done) jump)) ∧
        (W3.putObj (w.heap.size + 1) (.loop (rec_ (if jump.isNone then .ready else .done) jump))).heap[w.heap.size]? = some (.deferred (some [])) := fun jump hk => by
      have hl3 := hk.same _ _ hl2 rfl
      exact ⟨run_endRound (P := P) jump hl3, World.putObj_heap_same (Array.getElem?_eq_some_iff.1 hl3).1, (World.putObj_heap_other (by omega)).trans (hk.same _ _ hd2 rfl)⟩
    cases e with
    | normal =>
      obtain ⟨hk, hkp, hi3⟩ := hp
      obtain ⟨hr, hl4, hd4⟩ := fin none hk
      exact ⟨_, _, hr, .inl ⟨rfl, ⟨hI2 _ _ _ _ (by omega) hi3, hl4, hd4⟩, hKt (hKt (hKb _ _ _ (by omega)) hkp) (hKb _ _ _ (by omega))⟩⟩
    | ret =>
      obtain ⟨hk, hi3⟩ := hp
      obtain ⟨hr, hl4, hd4⟩ := fin (some .ret) hk
      exact ⟨_, _, hr, .inr ⟨rfl, hIx2 _ _ _ _ (by omega) hi3, hl4, hd4⟩⟩
    | exit id => exact hp.elim
    | goto t => exact hp.elim
    | panic ch => exact hp.elim
    | outgrown => exact hp.elim
  case behind =>
    rintro e W2 ⟨⟨v, rfl⟩, (⟨hi, hl, hd⟩ | ⟨pre, hi, hl, hd⟩)⟩
    · exact ⟨none, _, run_endLoop (P := P) hl (by simp [rec_]), hdone _ _ (Nat.le_refl _) (hI2 _ _ _ _ (by omega) hi) ((World.putObj_heap_other (by omega)).trans hd)⟩
    · exact ⟨some .ret, _, run_endLoop (P := P) hl (by simp [rec_]), hstop _ pre _ (Nat.le_refl _) (hIx2 _ _ _ _ (by omega) hi) ((World.putObj_heap_other (by omega)).trans hd)⟩
end Go.Proofs.YtemhfcgkfdklhaaGreatDoor.Seq
