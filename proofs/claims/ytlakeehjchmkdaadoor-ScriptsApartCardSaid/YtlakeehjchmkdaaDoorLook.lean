/- latin.Look (f14) at a text whose lines are in order. -/
import Derived.Lib.SmallJoins
import Derived.Maps.RangeWalk
import Derived.Shelf.Unicode.DecodeSlow
import Derived.Test.YtlakeehjchmkdaaDoorSplit
set_option linter.unusedVariables false
namespace Go.Proofs.YtlakeehjchmkdaaDoor.Look
open Go Go.RowKit Go.Shelf Go.Proofs Go.Proofs.YtlakeehjchmkdaaDoor.Seq Go.Proofs.YtlakeehjchmkdaaDoor.Hex Go.Proofs.YtlakeehjchmkdaaDoor.FF
attribute [local go_sem] Oper.semAt_some

/-- The library's tables that Look reads. -/
structure Tabs (w : World) : Prop where
  asc : Lib.TabIs Tryd.prog w "strings.asciiSpace" .u8 Lib.asciiSpaceTab
  white : Lib.WhiteTab 1 w
  utf : Lib.Utf8Tabs 4 5 w
theorem Tabs.below {w w' : World} (h : Tabs w) (hb : Below w.heap.size w w') : Tabs w' :=
  ⟨Go.Joins.tab_stays (g := 0) (by kernel_rfl) h.asc hb (Nat.le_refl _), WhiteTab_below h.white hb, Utf8Tabs_below h.utf hb⟩

theorem load_one {P : Program} {w : World} {ty : TypeId} {a : Addr} {v : Value} (hu : (isAgg ty).run P w = .ok false w) (hc : w.cell? a = some v) : (loadVar ty a).run P w = .ok v w := by
  simp [loadVar, go_sem, hu, hc, Result.andThen]
theorem results_two {P : Program} {fn : Func} {p p' : Tmp} {ty ty' : TypeId} (h : fn.results = #[.cell p ty, .cell p' ty']) (tmps : Array Value) (w : World) (a a' : Addr) (v v' : Value)
    (hp : tmps.getD p undef = .pointer (some a)) (hl : (loadVar ty a).run P w = .ok v w) (hp' : tmps.getD p' undef = .pointer (some a')) (hl' : (loadVar ty' a').run P w = .ok v' w) :
    (results fn tmps).run P w = .ok (.tuple #[v, v']) w := by
  have h1 : tmps[p]?.getD undef = .pointer (some a) := by simpa using hp
  have h2 : tmps[p']?.getD undef = .pointer (some a') := by simpa using hp'
  simp [results, h, h1, h2, asAddr, hl, hl']
/-- Look's own two results. -/
theorem results_look {w : World} {tmps : Array Value} {b : Nat} {x : Int} {y : Bool} (h4 : tmps.getD 4 undef = .pointer (some ⟨b + 1, 0, none⟩)) (h5 : tmps.getD 5 undef = .pointer (some ⟨b + 1 + 1, 0, none⟩))
    (c4 : Boxed w (b + 1) 21 (.int .i32 x)) (c5 : Boxed w (b + 1 + 1) 4 (.bool y)) : (results Tryd.f14 tmps).run Tryd.prog w = .ok (.tuple #[.int .i32 x, .bool y]) w :=
  results_two rfl tmps w _ _ _ _ h4 (load_one (by kernel_rfl) c4.cell) h5 (load_one (by kernel_rfl) c5.cell)

def startW (w : World) (n : Int) : World := ((w.alloc (.cells #[.int .i64 n] 3)).alloc (.cells #[.int .i32 0] 21)).alloc (.cells #[.bool false] 4)
theorem startW_below (w : World) (n : Int) : Below w.heap.size w (startW w n) := (((Below.refl _ w).alloc (Nat.le_refl _) _).alloc (by simp) _).alloc (by simp; omega) _
theorem startW_size (w : World) (n : Int) : (startW w n).heap.size = w.heap.size + 3 := by simp [startW]
theorem startW_n (w : World) (n : Int) : Boxed (startW w n) w.heap.size 3 (.int .i64 n) := ((Boxed.new w 3 _).alloc _).alloc _
theorem startW_x (w : World) (n : Int) : Boxed (startW w n) (w.heap.size + 1) 21 (.int .i32 0) := by
  have h := (Boxed.new (w.alloc (.cells #[.int .i64 n] 3)) 21 (.int .i32 0)).alloc (.cells #[.bool false] 4)
  rwa [World.size_alloc] at h
theorem startW_y (w : World) (n : Int) : Boxed (startW w n) (w.heap.size + 1 + 1) 4 (.bool false) := by
  have h := Boxed.new ((w.alloc (.cells #[.int .i64 n] 3)).alloc (.cells #[.int .i32 0] 21)) 4 (.bool false)
  rwa [World.size_alloc, World.size_alloc] at h

def firstV (ws : List ByteArray) : Nat := (hexV 0 (ws.headD dash).data.toList).getD 0
def lineOk (x : ByteArray) : Bool :=
  decide (x.size < 4294967281) && match fieldsG x with
  | [] => false
  | h :: t => decide (h.size ≠ 0) && decide (h.size ≤ 4) && (hexV 0 h.data.toList).isSome && t.all wordOk && decide (t.length < 1000)
/-- The character of a number on a line, if the line holds it. -/
def lineV (x : ByteArray) (n : Int) : Option (Int × Bool) :=
  let ws := fieldsG x
  let k := n - firstV ws
  if 0 ≤ k ∧ k < ws.length - 1 then some (wordV (ws.getD (1 + k.toNat) dash)) else none
def lookL : List ByteArray → Int → Int × Bool
  | [], _ => (0, false)
  | x :: xs, n => (lineV x n).getD (lookL xs n)
def lookV (xs : List ByteArray) (n : Int) : Int × Bool := if n < 33 ∨ 126 < n then (0, false) else lookL xs n

theorem putObj_grown {W X : World} {row : Option Nat} (h : W.grownBy X row) {l : Nat} (hl : W.heap.size ≤ l) (o : Obj) : W.grownBy (X.putObj l o) row :=
  ⟨h.os, h.tape, h.output, Nat.le_trans h.size (grownBy_putObj' X l o).size, fun k hk hne => (World.putObj_heap_other (by omega)).trans (h.block k hk hne)⟩
theorem others_of_below {W W' : World} (h : Below W.heap.size W W') : KeepsOthers W W' := ⟨h.size, fun k o hk _ => (h.block k (Array.getElem?_eq_some_iff.1 hk).1).trans hk⟩

set_option maxRecDepth 100000 in
set_option maxHeartbeats 4000000 in
theorem look (text : ByteArray) (xs : List ByteArray) (hx : Splits 10 text xs) (hsz : text.size < 4611686018427387904) (hok : xs.all lineOk = true) (n : Int) (w : World) (hT : Tabs w) :
    Calls Tryd.prog 14 #[.string text, .int .i64 n] w fun e w' => e = .returned (.tuple #[.int .i32 (lookV xs n).1, .bool (lookV xs n).2]) ∧ Below w.heap.size w w' := by
  refine (callsIn_wide (n := 3)).1 ?_
  refine callsIn_of_wp_marks Tryd.func14 rfl trivial ?_ rfl
  simp only [Tryd.ntmps14, List.size_toArray, List.length_cons, List.length_nil, Nat.reduceAdd, Nat.reduceSub, Array.replicate_succ, Array.replicate_zero, List.push_toArray, List.append_toArray, List.nil_append, List.cons_append]
  by_cases hr : n < 33 ∨ 126 < n
  · have e : lookV xs n = (0, false) := if_pos hr
    rw [e]
    rcases hr with hr | hr
    · gi_wp2
      exact ⟨_, results_look rfl rfl (startW_x w n) (startW_y w n), rfl, startW_below w n⟩
    · have h2 : ¬ n < 33 := by omega
      gi_wp2
      exact ⟨_, results_look rfl rfl (startW_x w n) (startW_y w n), rfl, startW_below w n⟩
  · have e : lookV xs n = lookL xs n := if_neg hr
    rw [e]
    have h1 : ¬ n < 33 := fun h => hr (.inl h)
    have h2 : ¬ 126 < n := fun h => hr (.inr h)
    gi_wp2_with (refine ⟨trivial, ?_⟩; gi_at_call 17; refine (callsIn_wide.2 (split text ⟨#[10]⟩ _)).mono ?_; rintro e w' ⟨rfl, rfl⟩; dsimp only [iterV])
    have hsplit := iter_split 10 text xs hx hsz (startW w n)
    change Code.wpIn _ _ _ _ _ _ (iterW (startW w n) text ⟨#[10]⟩)
    have eS : (iterW (startW w n) text ⟨#[10]⟩).heap.size = w.heap.size + 6 := by rw [iterW_size, startW_size]
    have hbs := iterW_below (startW w n) text ⟨#[10]⟩
    rw [startW_size] at hbs
    have fn : Boxed (iterW (startW w n) text ⟨#[10]⟩) w.heap.size 3 (.int .i64 n) := (hbs.block _ (by omega)).trans (startW_n w n)
    have f4 : Boxed (iterW (startW w n) text ⟨#[10]⟩) (w.heap.size + 1) 21 (.int .i32 0) := (hbs.block _ (by omega)).trans (startW_x w n)
    have f5 : Boxed (iterW (startW w n) text ⟨#[10]⟩) (w.heap.size + 1 + 1) 4 (.bool false) := (hbs.block _ (by omega)).trans (startW_y w n)
    have hbw : Below w.heap.size w (iterW (startW w n) text ⟨#[10]⟩) := (startW_below w n).trans (hbs.mono (by omega))
    rw [show (startW w n).heap.size = w.heap.size + 3 from startW_size w n] at hsplit
    generalize iterW (startW w n) text ⟨#[10]⟩ = W at *
    refine wpIn_range (b := w.heap.size + 3) rfl (enters_of Tryd.func27 (by kernel_rfl) rfl) (by omega) hsplit (fun h k j hj => (k j hj).trans (h j hj)) (fun X l o hl j hj => World.putObj_heap_other (by omega))
      (fun pre X => W.grownBy X (some (w.heap.size + 3)) ∧ ∀ q, xs = pre ++ q → lookL xs n = lookL q n)
      (fun _ X => Below w.heap.size w X ∧ Boxed X (w.heap.size + 1) 21 (.int .i32 (lookL xs n).1) ∧ Boxed X (w.heap.size + 1 + 1) 4 (.bool (lookL xs n).2))
      ?_ ?_ ?_ ?_ ?_ ⟨World.grownBy.refl _ _, fun q h => by rw [show xs = q from h]⟩
      (fun x => { tmps := #[.string text, .int .i64 n, undef, .pointer (some ⟨w.heap.size, 0, none⟩), .pointer (some ⟨w.heap.size + 1, 0, none⟩), .pointer (some ⟨w.heap.size + 1 + 1, 0, none⟩), .string x, undef, undef, undef, undef,
          .int .i64 n, .bool false, .bool false, .int .i64 n, .bool false, .bool false, .string text,
          .func (.func 27) #[] #[.pointer (some ⟨w.heap.size + 1 + 1 + 1 + 1, 0, none⟩), .pointer (some ⟨w.heap.size + 1 + 1 + 1, 0, none⟩), .pointer (some ⟨w.heap.size + 1 + 1 + 1 + 2, 0, none⟩)],
          .string x, undef, undef, undef, undef, undef, undef, undef, undef, undef, undef, undef, undef, undef, undef, undef, undef, undef, undef, undef, undef, undef, undef, undef, undef, undef, undef, undef, undef, undef, undef], defers := [] })
      ?assign ?body ?done ?stop
    case assign =>
      intro l x X K hK
      gi_wp2
      exact hK
    case body =>
      rintro l pre x X ⟨hg, hl⟩ ⟨q, hq⟩
      have hlo : lineOk x = true := by
        have := List.all_eq_true.1 hok x (by rw [hq]; simp)
        exact this
      have hX : Below w.heap.size w X := hbw.grown hg hbw.size (fun k hk => by cases hk; omega)
      have hTX := hT.below hX
      have hlq := hl _ hq
      have g3 := fn.kept hg (by simp)
      have g4 := f4.kept hg (by simp)
      have g5 := f5.kept hg (by simp)
      simp only [lineOk, Bool.and_eq_true, decide_eq_true_eq] at hlo
      obtain ⟨hxs, hlo⟩ := hlo
      have cF := fields x X hxs hTX.asc hTX.white
      obtain ⟨L, hL⟩ : ∃ L, lineV x n = L := ⟨_, rfl⟩
      have hlv := hL
      simp only [lineV] at hlv
      generalize fieldsG x = ws at cF hlo hlv
      cases ws with
      | nil => simp at hlo
      | cons h0 t =>
      simp only [Bool.and_eq_true, decide_eq_true_eq] at hlo
      obtain ⟨⟨⟨⟨hh1, hh2⟩, hh3⟩, hwo⟩, ht1000⟩ := hlo
      obtain ⟨v, hv⟩ := Option.isSome_iff_exists.1 hh3
      have cP := fun Y => parse h0 v hv hh1 hh2 Y
      have hvb : v < 65536 := by
        have := hexV_lt _ _ _ hv
        have hl : h0.data.toList.length ≤ 4 := by rw [← Lib.size_eq]; exact hh2
        have hp := Nat.pow_le_pow_right (n := 16) (by decide) hl
        omega
      have hfv : firstV (h0 :: t) = v := by simp [firstV, hv]
      rw [hfv] at hlv
      have c3 := g3.cell
      have hwlt : w.heap.size < X.heap.size := by have := hX.size; have := g3.lt; omega
      have hnext : L = none → ∀ r, xs = pre ++ [x] ++ r → lookL xs n = lookL r n := fun h0 r hr => by
        have : q = r := by
          rw [hq, List.append_assoc] at hr
          have := List.append_cancel_left hr
          simpa using this
        rw [hlq, ← this]
        show (lineV x n).getD (lookL q n) = _
        rw [hL, h0]
        rfl
      have hthere : ∀ r, L = some r → lookL xs n = r := fun r hr => by
        rw [hlq]
        show (lineV x n).getD (lookL q n) = _
        rw [hL, hr]
        rfl
      have hXs : w.heap.size + 6 ≤ X.heap.size := by rw [← eS]; exact hg.size
      have fin : ∀ {Y : World}, Below X.heap.size X Y → L = none → KeepsOthers X Y ∧ Kp W.heap.size X Y ∧ (W.grownBy Y (some (w.heap.size + 3)) ∧ ∀ r, xs = pre ++ [x] ++ r → lookL xs n = lookL r n) := fun hY hn =>
        ⟨others_of_below hY, fun k hk => hY.block k (by have := hg.size; omega), hg.trans ((grown_of_below hY).but _), hnext hn⟩
      clear hlq hq hL eS
      have hwt : wrap64 (t.length : Int) = t.length := by unfold wrap64; omega
      by_cases hk : 0 ≤ n - (v : Int) ∧ n - (v : Int) < (t.length : Int)
      · obtain ⟨k, rfl⟩ : ∃ k : Nat, n = (v : Int) + k := ⟨(n - v).toNat, by omega⟩
        have hkt : k < t.length := by omega
        have hkt' : (k : Int) < (t.length : Int) := by omega
        have hLs : L = some (wordV (t[k]'hkt)) := by
          rw [← hlv, if_pos ⟨hk.1, by simp; omega⟩]
          have e1 : ((v : Int) + k - v).toNat = k := by omega
          rw [e1, List.getD_eq_getElem?_getD, Nat.add_comm 1 k, List.getElem?_cons_succ, List.getElem?_eq_getElem hkt]
          rfl
        obtain ⟨hk0, hk1⟩ := hk
        have hres := hthere _ hLs
        have cW := fun Y hY => word (t[k]'hkt) (List.all_eq_true.1 hwo _ (List.getElem_mem hkt)) Y hY
        generalize wordV (t[k]'hkt) = R at hres cW
        obtain ⟨rx, ry⟩ := R
        gi_wp2_with (first
            | (refine ⟨trivial, ?_⟩; gi_at_call 18; refine (CallsIn.inRound l (callsIn_wide.2 cF)).mono ?_; rintro e X1 ⟨A, rfl, hA, hrow, hb1⟩; have cA : X1.cell? ⟨A, 0, none⟩ = some (.string h0) := by simpa using hrow.cellAt 0 (by simp))
            | (refine ⟨trivial, ?_⟩; gi_at_call 19; refine (CallsIn.inRound l (callsIn_wide.2 (cP _))).mono ?_; rintro e X2 ⟨rfl, hb2⟩; have hb3 := hb1.trans (hb2.mono hb1.size); have c3' : X2.cell? ⟨w.heap.size, 0, none⟩ = some (.int .i64 ((v : Int) + k)) := (World.cell?_of_block (w := X) (hb3.block _ hwlt)).trans c3;
                have cK : X2.cell? ⟨A, 1 + k, none⟩ = some (.string (t[k]'hkt)) := by
                  rw [World.cell?_of_block (w := X1) (hb2.block A (hrow.lt A rfl).2), Nat.add_comm 1 k]
                  have := hrow.cellAt (k + 1) (by simp; omega)
                  rw [this]
                  simp [hkt])
            | (refine ⟨trivial, ?_⟩; gi_at_call 20; refine (CallsIn.inRound l (callsIn_wide.2 (cW _ (hTX.below hb3).utf))).mono ?_; rintro e X3 ⟨rfl, hb4⟩;
                have hb5 := hb3.trans (hb4.mono hb3.size);
                have j4 : Boxed X3 (w.heap.size + 1) 21 (.int .i32 0) := (hb5.block _ g4.lt).trans g4;
                have j5 : Boxed X3 (w.heap.size + 1 + 1) 4 (.bool false) := (hb5.block _ g5.lt).trans g5;
                have k4 := j4.set (.int .i32 rx);
                have k5 := j5.other (B' := w.heap.size + 1) (by omega) (.int .i32 rx);
                have c4 := j4.cell;
                have z4 := j4.frozen;
                have c5 := k5.cell;
                have z5 := k5.frozen))
        rw [hres]
        have hX3 := (hX.trans (hb5.mono hX.size))
        exact ⟨((others_of_below hb5).trans (KeepsOthers.setCell _ _ _)).trans (KeepsOthers.setCell _ _ _),
          (hX3.setCell (p := ⟨w.heap.size + 1, 0, none⟩) (by simp) _).setCell (p := ⟨w.heap.size + 1 + 1, 0, none⟩) (by simp; omega) _,
          k4.other (B' := w.heap.size + 1 + 1) (by omega) _, k5.set (.bool ry)⟩
      · have hnone : L = none := by
          rw [← hlv]
          refine if_neg fun h => hk ⟨h.1, ?_⟩
          have := h.2
          simp at this
          omega
        rcases Decidable.not_and_iff_or_not.1 hk with hk | hk
        · have hk2 : n - (v : Int) < 0 := by omega
          gi_wp2_with (first
            | (refine ⟨trivial, ?_⟩; gi_at_call 18; refine (CallsIn.inRound l (callsIn_wide.2 cF)).mono ?_; rintro e X1 ⟨A, rfl, hA, hrow, hb1⟩; have cA : X1.cell? ⟨A, 0, none⟩ = some (.string h0) := by simpa using hrow.cellAt 0 (by simp))
            | (refine ⟨trivial, ?_⟩; gi_at_call 19; refine (CallsIn.inRound l (callsIn_wide.2 (cP _))).mono ?_; rintro e X2 ⟨rfl, hb2⟩; have hb3 := hb1.trans (hb2.mono hb1.size); have c3' : X2.cell? ⟨w.heap.size, 0, none⟩ = some (.int .i64 n) := (World.cell?_of_block (w := X) (hb3.block _ hwlt)).trans c3))
          exact fin hb3 hnone
        · have hk1 : (t.length : Int) ≤ n - (v : Int) := by omega
          have hk2 : 0 ≤ n - (v : Int) := by omega
          gi_wp2_with (first
            | (refine ⟨trivial, ?_⟩; gi_at_call 18; refine (CallsIn.inRound l (callsIn_wide.2 cF)).mono ?_; rintro e X1 ⟨A, rfl, hA, hrow, hb1⟩; have cA : X1.cell? ⟨A, 0, none⟩ = some (.string h0) := by simpa using hrow.cellAt 0 (by simp))
            | (refine ⟨trivial, ?_⟩; gi_at_call 19; refine (CallsIn.inRound l (callsIn_wide.2 (cP _))).mono ?_; rintro e X2 ⟨rfl, hb2⟩; have hb3 := hb1.trans (hb2.mono hb1.size); have c3' : X2.cell? ⟨w.heap.size, 0, none⟩ = some (.int .i64 n) := (World.cell?_of_block (w := X) (hb3.block _ hwlt)).trans c3))
          exact fin hb3 hnone
    case done =>
      rintro D X hD ⟨hg, hl⟩ hK
      have hl0 := hl [] (by simp)
      have g4 := f4.kept hg (by simp)
      have g5 := f5.kept hg (by simp)
      have k4 := g4.set (.int .i32 0)
      have k5 := (g5.other (B' := w.heap.size + 1) (by omega) (.int .i32 0))
      have c4 := g4.cell
      have z4 := g4.frozen
      have c5 := k5.cell
      have z5 := k5.frozen
      gi_wp2
      refine ⟨by simp, .inl ⟨_, _, rfl, run_takeDeferred (by rw [Below.heap_setCell _ _ _ _ (by simp; omega), Below.heap_setCell _ _ _ _ (by simp; omega)]; exact hK), ?_⟩⟩
      rw [hl0]
      refine ⟨_, results_look rfl rfl ((k4.other (B' := w.heap.size + 1 + 1) (by omega) _).kept (grownBy_putObj' _ D _) (by simp; omega)) ((k5.set (.bool false)).kept (grownBy_putObj' _ D _) (by simp; omega)), rfl, ?_⟩
      have hX : Below w.heap.size w X := hbw.grown hg hbw.size (fun k hk => by cases hk; omega)
      have hX2 := (hX.setCell (p := ⟨w.heap.size + 1, 0, none⟩) (by simp) (.int .i32 0)).setCell (p := ⟨w.heap.size + 1 + 1, 0, none⟩) (by simp; omega) (.bool false)
      exact hX2.grown (grownBy_putObj' _ D _) hX2.size (fun k hk => by cases hk; omega)
    case stop =>
      rintro D pre X hD ⟨hb, h4, h5⟩ hK
      gi_wp2
      refine ⟨by simp, .inl ⟨_, _, rfl, run_takeDeferred hK, ?_⟩⟩
      have hlt := (Array.getElem?_eq_some_iff.1 hK).1
      refine ⟨_, results_look rfl rfl (h4.kept (grownBy_putObj' X D _) (by simp; omega)) (h5.kept (grownBy_putObj' X D _) (by simp; omega)), rfl, hb.grown (grownBy_putObj' X D _) hb.size (fun k hk => by cases hk; omega)⟩
    · exact fun s A B h hg => ⟨h.1.trans hg, h.2⟩
    · exact fun s A l o hl h => ⟨putObj_grown h.1 hl o, h.2⟩
    · exact fun s A B h hg => ⟨h.1.grown hg h.1.size (fun k hk => by cases hk; omega), h.2.1.kept hg (by simp), h.2.2.kept hg (by simp)⟩
    · exact fun s A l o hl h => ⟨h.1.grown (grownBy_putObj' A l o) h.1.size (fun k hk => by cases hk; omega), h.2.1.kept (grownBy_putObj' A l o) (by simp; omega), h.2.2.kept (grownBy_putObj' A l o) (by simp; omega)⟩
    · exact fun s A o h => ⟨h.1.trans (World.grownBy_alloc A o _), h.2⟩
end Go.Proofs.YtlakeehjchmkdaaDoor.Look
