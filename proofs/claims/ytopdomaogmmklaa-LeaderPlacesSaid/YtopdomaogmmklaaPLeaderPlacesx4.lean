/- The walk of the law LeaderPlaces: begun as a text of print.sh, mended by hand. -/
import Derived.Test.YtopdomaogmmklaaPLeaderPlacesx0
import Derived.Test.YtopdomaogmmklaaPLeaderPlacesx1
import Derived.Test.YtopdomaogmmklaaPLeaderPlacesx2
import Derived.Test.YtopdomaogmmklaaPLeaderPlacesx3
import Derived.Lib.SlBytesConst
namespace Go.Proofs.Ytopdomaogmmklaa.PLeaderPlaces
open Go.RowKit Go.Proofs.YtopdomaogmmklaaW.PrintWords Go.Proofs.YtopdomaogmmklaaW.PrintLast Go.Proofs.YtopdomaogmmklaaW.PrintMore
attribute [local go_sem] max2_int min2_int max_two min_two max_three min_three max_four min_four   -- for this text's walks alone
set_option linter.unusedVariables false
set_option linter.unusedSimpArgs false

attribute [local go_sem high] eqA26
/-- A row of bytes that a literal has made, whatever its mark is, one byte stored: it is read so. -/
theorem const_block (W : World) (xs : List Int) (m : Nat × Nat) (i : Nat) (a : Int) :
    ((W.alloc (.cells (xs.map (Value.int .u8)).toArray 5 m)).setCell ⟨W.heap.size, i, none⟩ (.int .u8 a)).heap[W.heap.size]? = some (.cells ((xs.set i a).map (Value.int .u8)).toArray 5 m) := by
  have hb : (W.alloc (.cells (xs.map (Value.int .u8)).toArray 5 m)).heap[W.heap.size]? = some (.cells (xs.map (Value.int .u8)).toArray 5 m) := by
    show (W.heap.push _)[W.heap.size]? = _
    simp
  simp only [World.setCell, Array.getElem?_modify, hb]
  simp [List.map_set]
theorem const_reads_set (W : World) (xs : List Int) (m : Nat × Nat) (i : Nat) (a : Int) (hn : xs.length ≤ 9223372036854775807) :
    Kd.C (Kd.int .u8) ((W.alloc (.cells (xs.map (Value.int .u8)).toArray 5 m)).setCell ⟨W.heap.size, i, none⟩ (.int .u8 a)) (some ⟨W.heap.size, 0, none⟩) (xs.set i a).length (xs.set i a) := by
  refine Kd.C_of_reads (d := 0) (h1 := fun _ => rfl) ⟨rfl, by simpa using hn, fun _ => ⟨_, rfl, fun j hj => ?_⟩⟩
  have hg : (((xs.set i a).map (Value.int .u8)).toArray)[j]? = some (.int .u8 ((xs.set i a).getD j 0)) := by
    have hj' : j < (xs.set i a).length := hj
    rw [List.getElem?_toArray, List.getElem?_map, List.getElem?_eq_getElem hj', List.getD_eq_getElem?_getD, List.getElem?_eq_getElem hj']
    rfl
  rw [add_plain]
  unfold World.cell?
  simp only
  rw [const_block]
  simp only [Option.isSome_none, Bool.false_eq_true, if_false]
  exact hg
theorem const_cell (W : World) (xs : List Int) (m : Nat × Nat) (i : Int) (h0 : 0 ≤ i) (h1 : i < (xs.length : Int)) :
    (W.alloc (.cells (xs.map (Value.int .u8)).toArray 5 m)).cell? ⟨W.heap.size, i.toNat, none⟩ = some (.int .u8 (rd xs i)) := by
  have hb : (W.alloc (.cells (xs.map (Value.int .u8)).toArray 5 m)).heap[W.heap.size]? = some (.cells (xs.map (Value.int .u8)).toArray 5 m) := by
    show (W.heap.push _)[W.heap.size]? = _
    simp
  have hj : i.toNat < xs.length := by omega
  unfold World.cell?
  simp only
  rw [hb]
  simp [rd, List.getD_eq_getElem?_getD, List.getElem?_eq_getElem hj]
theorem const_free (W : World) (C : Array Value) (a b : Nat) (i : Nat) (h : i < a) : (W.alloc (.cells C 5 (a, b))).frozen? ⟨W.heap.size, i, none⟩ = false := by
  have hb : (W.alloc (.cells C 5 (a, b))).heap[W.heap.size]? = some (.cells C 5 (a, b)) := by
    show (W.heap.push _)[W.heap.size]? = _
    simp
  unfold World.frozen?
  simp only
  rw [hb]
  simp
  intro h2
  omega

/-! ### amanuensislaw19_LeaderPlaces: function 4 -/
mutual
def amanuensislaw19_LeaderPlaces.j0 : Nat → Int → Int → Bool → Int → Int → Option (Bool)
  | 0, _, _, _, _, _ => none
  | k + 1, x1, x6, x10, x133000, x133001 => if x6 < 5 then (amanuensislaw19_LeaderPlaces.j1 k x1 x6 x10 true x133000 x133001) else (if x6 ≥ 12 then (amanuensislaw19_LeaderPlaces.j1 k x1 x6 x10 (decide (x6 < 17)) x133000 x133001) else (amanuensislaw19_LeaderPlaces.j1 k x1 x6 x10 false x133000 x133001))
def amanuensislaw19_LeaderPlaces.j1 : Nat → Int → Int → Bool → Bool → Int → Int → Option (Bool)
  | 0, _, _, _, _, _, _ => none
  | k + 1, x1, x6, x10, x41, x133000, x133001 => if x41 = true then (if x1 ≥ 48 then (amanuensislaw19_LeaderPlaces.j2 k x1 x6 (decide (x1 ≤ 57)) x133000 x133001) else (amanuensislaw19_LeaderPlaces.j2 k x1 x6 false x133000 x133001)) else (amanuensislaw19_LeaderPlaces.j2 k x1 x6 x10 x133000 x133001)
def amanuensislaw19_LeaderPlaces.j2 : Nat → Int → Int → Bool → Int → Int → Option (Bool)
  | 0, _, _, _, _, _ => none
  | k + 1, x1, x6, x10, x133000, x133001 => if x6 = 9 then (if x1 = 32 then (amanuensislaw19_LeaderPlaces.j3 k x1 x6 true x133000 x133001) else (amanuensislaw19_LeaderPlaces.j3 k x1 x6 (x1 == 97) x133000 x133001)) else (amanuensislaw19_LeaderPlaces.j3 k x1 x6 x10 x133000 x133001)
def amanuensislaw19_LeaderPlaces.j3 : Nat → Int → Int → Bool → Int → Int → Option (Bool)
  | 0, _, _, _, _, _ => none
  | k + 1, x1, x6, x10, x133000, x133001 => if x6 = 10 then (amanuensislaw19_LeaderPlaces.j4 k x1 x6 x10 true x133000 x133001) else (amanuensislaw19_LeaderPlaces.j4 k x1 x6 x10 (x6 == 11) x133000 x133001)
def amanuensislaw19_LeaderPlaces.j4 : Nat → Int → Int → Bool → Bool → Int → Int → Option (Bool)
  | 0, _, _, _, _, _, _ => none
  | k + 1, x1, x6, x10, x61, x133000, x133001 => if x61 = true then (if x6 ≥ 20 then (if 0 ≤ (wrap64 (x6 - 20)) then (if (wrap64 (x6 - 20)) < 4 then ((amanuensislaw19_answers.f k).bind fun t133 => (if t133 = true then (if ((x133000 == 0) == (x1 == (bt (⟨#[52, 53, 48, 48]⟩ : ByteArray) (wrap64 (x6 - 20))))) = true then (if x1 = (bt (⟨#[52, 53, 48, 48]⟩ : ByteArray) (wrap64 (x6 - 20))) then (some true) else (some (x133000 == 10 && (x133001 == x6)))) else (some false)) else (some false))) else (none)) else (none)) else ((amanuensislaw19_answers.f k).bind fun t134 => (if t134 = true then (if ((x133000 == 0) == (x1 == 50)) = true then (if x1 = 50 then (some true) else (some (x133000 == 10 && (x133001 == x6)))) else (some false)) else (some false)))) else (if x6 ≥ 20 then (if 0 ≤ (wrap64 (x6 - 20)) then (if (wrap64 (x6 - 20)) < 4 then ((amanuensislaw19_answers.f k).bind fun t135 => (if t135 = true then (if ((x133000 == 0) == (x1 == (bt (⟨#[52, 53, 48, 48]⟩ : ByteArray) (wrap64 (x6 - 20))))) = true then (if x1 = (bt (⟨#[52, 53, 48, 48]⟩ : ByteArray) (wrap64 (x6 - 20))) then (some true) else (some (x133000 == 10 && (x133001 == x6)))) else (some false)) else (some false))) else (none)) else (none)) else ((amanuensislaw19_answers.f k).bind fun t136 => (if t136 = true then (if ((x133000 == 0) == x10) = true then (if x10 = true then (some true) else (some (x133000 == 10 && (x133001 == x6)))) else (some false)) else (some false))))
end
def amanuensislaw19_LeaderPlaces.f (k : Nat) (a0 : Int) (a1 : Int) : Option (Bool) := (some (([48, 48, 48, 50, 54, 110, 97, 109, 32, 97, 50, 50, 48, 48, 48, 50, 53, 32, 97, 32, 52, 53, 48, 48] : List Int) : List Int)).bind fun y124 => (if 0 ≤ (Int.tmod (wrap64 (a0)) 24) then (if (Int.tmod (wrap64 (a0)) 24) < (y124.length : Int) then ((leader_Parse.f k (y124.set ((Int.tmod (wrap64 (a0)) 24) : Int).toNat a1)).bind fun bt128 => (if a1 ≥ 32 then (amanuensislaw19_LeaderPlaces.j0 k a1 (Int.tmod (wrap64 (a0)) 24) (decide (a1 ≤ 126)) bt128.2.2.1 bt128.2.2.2) else (amanuensislaw19_LeaderPlaces.j0 k a1 (Int.tmod (wrap64 (a0)) 24) false bt128.2.2.1 bt128.2.2.2))) else (none)) else (none))
theorem amanuensislaw19_LeaderPlaces.mono_l : ∀ k, (∀ y0 y1 y2 y3 y4, LeO (amanuensislaw19_LeaderPlaces.j0 k y0 y1 y2 y3 y4) (amanuensislaw19_LeaderPlaces.j0 (k + 1) y0 y1 y2 y3 y4)) ∧ (∀ y0 y1 y2 y3 y4 y5, LeO (amanuensislaw19_LeaderPlaces.j1 k y0 y1 y2 y3 y4 y5) (amanuensislaw19_LeaderPlaces.j1 (k + 1) y0 y1 y2 y3 y4 y5)) ∧ (∀ y0 y1 y2 y3 y4, LeO (amanuensislaw19_LeaderPlaces.j2 k y0 y1 y2 y3 y4) (amanuensislaw19_LeaderPlaces.j2 (k + 1) y0 y1 y2 y3 y4)) ∧ (∀ y0 y1 y2 y3 y4, LeO (amanuensislaw19_LeaderPlaces.j3 k y0 y1 y2 y3 y4) (amanuensislaw19_LeaderPlaces.j3 (k + 1) y0 y1 y2 y3 y4)) ∧ (∀ y0 y1 y2 y3 y4 y5, LeO (amanuensislaw19_LeaderPlaces.j4 k y0 y1 y2 y3 y4 y5) (amanuensislaw19_LeaderPlaces.j4 (k + 1) y0 y1 y2 y3 y4 y5))
  | 0 => ⟨fun _ _ _ _ _ r h => by simp [amanuensislaw19_LeaderPlaces.j0] at h, fun _ _ _ _ _ _ r h => by simp [amanuensislaw19_LeaderPlaces.j1] at h, fun _ _ _ _ _ r h => by simp [amanuensislaw19_LeaderPlaces.j2] at h, fun _ _ _ _ _ r h => by simp [amanuensislaw19_LeaderPlaces.j3] at h, fun _ _ _ _ _ _ r h => by simp [amanuensislaw19_LeaderPlaces.j4] at h⟩
  | k + 1 => by
    obtain ⟨ih0, ih1, ih2, ih3, ih4⟩ := amanuensislaw19_LeaderPlaces.mono_l k
    refine ⟨?_, ?_, ?_, ?_, ?_⟩
    · intro y0 y1 y2 y3 y4
      unfold amanuensislaw19_LeaderPlaces.j0
      repeat' first
      | (with_reducible exact ih0 _ _ _ _ _)
      | (with_reducible exact ih1 _ _ _ _ _ _)
      | (with_reducible exact ih2 _ _ _ _ _)
      | (with_reducible exact ih3 _ _ _ _ _)
      | (with_reducible exact ih4 _ _ _ _ _ _)
      | (with_reducible exact amanuensislaw19_answers.mono _)
      | (with_reducible exact leader_Parse.mono _ _)
      | (with_reducible exact LeO.refl _)
      | (with_reducible exact LeO.none _)
      | (with_reducible refine LeO.ite ?_ ?_)
      | (with_reducible refine LeO.bind ?_ (fun _ => ?_))
      | exact ih0 _ _ _ _ _
      | exact ih1 _ _ _ _ _ _
      | exact ih2 _ _ _ _ _
      | exact ih3 _ _ _ _ _
      | exact ih4 _ _ _ _ _ _
      | exact amanuensislaw19_answers.mono _
      | exact leader_Parse.mono _ _
      | exact LeO.none _
      | refine LeO.ite ?_ ?_
      | refine LeO.bind ?_ (fun _ => ?_)
    · intro y0 y1 y2 y3 y4 y5
      unfold amanuensislaw19_LeaderPlaces.j1
      repeat' first
      | (with_reducible exact ih0 _ _ _ _ _)
      | (with_reducible exact ih1 _ _ _ _ _ _)
      | (with_reducible exact ih2 _ _ _ _ _)
      | (with_reducible exact ih3 _ _ _ _ _)
      | (with_reducible exact ih4 _ _ _ _ _ _)
      | (with_reducible exact amanuensislaw19_answers.mono _)
      | (with_reducible exact leader_Parse.mono _ _)
      | (with_reducible exact LeO.refl _)
      | (with_reducible exact LeO.none _)
      | (with_reducible refine LeO.ite ?_ ?_)
      | (with_reducible refine LeO.bind ?_ (fun _ => ?_))
      | exact ih0 _ _ _ _ _
      | exact ih1 _ _ _ _ _ _
      | exact ih2 _ _ _ _ _
      | exact ih3 _ _ _ _ _
      | exact ih4 _ _ _ _ _ _
      | exact amanuensislaw19_answers.mono _
      | exact leader_Parse.mono _ _
      | exact LeO.none _
      | refine LeO.ite ?_ ?_
      | refine LeO.bind ?_ (fun _ => ?_)
    · intro y0 y1 y2 y3 y4
      unfold amanuensislaw19_LeaderPlaces.j2
      repeat' first
      | (with_reducible exact ih0 _ _ _ _ _)
      | (with_reducible exact ih1 _ _ _ _ _ _)
      | (with_reducible exact ih2 _ _ _ _ _)
      | (with_reducible exact ih3 _ _ _ _ _)
      | (with_reducible exact ih4 _ _ _ _ _ _)
      | (with_reducible exact amanuensislaw19_answers.mono _)
      | (with_reducible exact leader_Parse.mono _ _)
      | (with_reducible exact LeO.refl _)
      | (with_reducible exact LeO.none _)
      | (with_reducible refine LeO.ite ?_ ?_)
      | (with_reducible refine LeO.bind ?_ (fun _ => ?_))
      | exact ih0 _ _ _ _ _
      | exact ih1 _ _ _ _ _ _
      | exact ih2 _ _ _ _ _
      | exact ih3 _ _ _ _ _
      | exact ih4 _ _ _ _ _ _
      | exact amanuensislaw19_answers.mono _
      | exact leader_Parse.mono _ _
      | exact LeO.none _
      | refine LeO.ite ?_ ?_
      | refine LeO.bind ?_ (fun _ => ?_)
    · intro y0 y1 y2 y3 y4
      unfold amanuensislaw19_LeaderPlaces.j3
      repeat' first
      | (with_reducible exact ih0 _ _ _ _ _)
      | (with_reducible exact ih1 _ _ _ _ _ _)
      | (with_reducible exact ih2 _ _ _ _ _)
      | (with_reducible exact ih3 _ _ _ _ _)
      | (with_reducible exact ih4 _ _ _ _ _ _)
      | (with_reducible exact amanuensislaw19_answers.mono _)
      | (with_reducible exact leader_Parse.mono _ _)
      | (with_reducible exact LeO.refl _)
      | (with_reducible exact LeO.none _)
      | (with_reducible refine LeO.ite ?_ ?_)
      | (with_reducible refine LeO.bind ?_ (fun _ => ?_))
      | exact ih0 _ _ _ _ _
      | exact ih1 _ _ _ _ _ _
      | exact ih2 _ _ _ _ _
      | exact ih3 _ _ _ _ _
      | exact ih4 _ _ _ _ _ _
      | exact amanuensislaw19_answers.mono _
      | exact leader_Parse.mono _ _
      | exact LeO.none _
      | refine LeO.ite ?_ ?_
      | refine LeO.bind ?_ (fun _ => ?_)
    · intro y0 y1 y2 y3 y4 y5
      unfold amanuensislaw19_LeaderPlaces.j4
      repeat' first
      | (with_reducible exact ih0 _ _ _ _ _)
      | (with_reducible exact ih1 _ _ _ _ _ _)
      | (with_reducible exact ih2 _ _ _ _ _)
      | (with_reducible exact ih3 _ _ _ _ _)
      | (with_reducible exact ih4 _ _ _ _ _ _)
      | (with_reducible exact amanuensislaw19_answers.mono _)
      | (with_reducible exact leader_Parse.mono _ _)
      | (with_reducible exact LeO.refl _)
      | (with_reducible exact LeO.none _)
      | (with_reducible refine LeO.ite ?_ ?_)
      | (with_reducible refine LeO.bind ?_ (fun _ => ?_))
      | exact ih0 _ _ _ _ _
      | exact ih1 _ _ _ _ _ _
      | exact ih2 _ _ _ _ _
      | exact ih3 _ _ _ _ _
      | exact ih4 _ _ _ _ _ _
      | exact amanuensislaw19_answers.mono _
      | exact leader_Parse.mono _ _
      | exact LeO.none _
      | refine LeO.ite ?_ ?_
      | refine LeO.bind ?_ (fun _ => ?_)
theorem amanuensislaw19_LeaderPlaces.mono : ∀ a0 a1 k, LeO (amanuensislaw19_LeaderPlaces.f k a0 a1) (amanuensislaw19_LeaderPlaces.f (k + 1) a0 a1) := by
  intro a0 a1 k
  obtain ⟨ih0, ih1, ih2, ih3, ih4⟩ := amanuensislaw19_LeaderPlaces.mono_l k
  unfold amanuensislaw19_LeaderPlaces.f
  repeat' first
      | (with_reducible exact ih0 _ _ _ _ _)
      | (with_reducible exact ih1 _ _ _ _ _ _)
      | (with_reducible exact ih2 _ _ _ _ _)
      | (with_reducible exact ih3 _ _ _ _ _)
      | (with_reducible exact ih4 _ _ _ _ _ _)
      | (with_reducible exact amanuensislaw19_answers.mono _)
      | (with_reducible exact leader_Parse.mono _ _)
      | (with_reducible exact LeO.refl _)
      | (with_reducible exact LeO.none _)
      | (with_reducible refine LeO.ite ?_ ?_)
      | (with_reducible refine LeO.bind ?_ (fun _ => ?_))
      | exact ih0 _ _ _ _ _
      | exact ih1 _ _ _ _ _ _
      | exact ih2 _ _ _ _ _
      | exact ih3 _ _ _ _ _
      | exact ih4 _ _ _ _ _ _
      | exact amanuensislaw19_answers.mono _
      | exact leader_Parse.mono _ _
      | exact LeO.none _
      | refine LeO.ite ?_ ?_
      | refine LeO.bind ?_ (fun _ => ?_)
set_option maxHeartbeats 8000000 in
set_option maxRecDepth 100000 in
theorem amanuensislaw19_LeaderPlaces.calls (k : Nat) (a0 : Int) (a1 : Int) (r : Bool) (w : World) (h : amanuensislaw19_LeaderPlaces.f k a0 a1 = some r) :
    Calls Try.prog 4 #[.int .u8 a0, .int .u8 a1] w fun e w' => e = .returned (.bool r) ∧ Below w.heap.size w w' := by
  have hu26 := Try.underlying26
  have HB := Aside0.mk (Below.refl w.heap.size w)
  have H : ((some (([48, 48, 48, 50, 54, 110, 97, 109, 32, 97, 50, 50, 48, 48, 48, 50, 53, 32, 97, 32, 52, 53, 48, 48] : List Int) : List Int)).bind fun y124 => (if 0 ≤ (Int.tmod (wrap64 (a0)) 24) then (if (Int.tmod (wrap64 (a0)) 24) < (y124.length : Int) then ((leader_Parse.f k (y124.set ((Int.tmod (wrap64 (a0)) 24) : Int).toNat a1)).bind fun bt128 => (if a1 ≥ 32 then (amanuensislaw19_LeaderPlaces.j0 k a1 (Int.tmod (wrap64 (a0)) 24) (decide (a1 ≤ 126)) bt128.2.2.1 bt128.2.2.2) else (amanuensislaw19_LeaderPlaces.j0 k a1 (Int.tmod (wrap64 (a0)) 24) false bt128.2.2.1 bt128.2.2.2))) else (none)) else (none))) = some r := h
  clear h
  obtain ⟨y124, hy124⟩ : ∃ y_ : List Int, y_ = (([48, 48, 48, 50, 54, 110, 97, 109, 32, 97, 50, 50, 48, 48, 48, 50, 53, 32, 97, 32, 52, 53, 48, 48] : List Int)) := ⟨_, rfl⟩
  replace H : (if 0 ≤ (Int.tmod (wrap64 (a0)) 24) then (if (Int.tmod (wrap64 (a0)) 24) < (y124.length : Int) then ((leader_Parse.f k (y124.set ((Int.tmod (wrap64 (a0)) 24) : Int).toNat a1)).bind fun bt128 => (if a1 ≥ 32 then (amanuensislaw19_LeaderPlaces.j0 k a1 (Int.tmod (wrap64 (a0)) 24) (decide (a1 ≤ 126)) bt128.2.2.1 bt128.2.2.2) else (amanuensislaw19_LeaderPlaces.j0 k a1 (Int.tmod (wrap64 (a0)) 24) false bt128.2.2.1 bt128.2.2.2))) else (none)) else (none)) = some r := by first | (rw [hy124]; with_reducible exact H) | (have H2_ := (Option.bind_some _ _).symm.trans H; rw [hy124]; with_reducible exact H2_) | (have H2_ := (Option.bind_some _ _).symm.trans H; with_reducible exact H2_) | with_reducible exact H | (rw [hy124]; exact H) | exact H
  have Ny124 := Aside0.mk hy124
  clear hy124
  obtain ⟨ji3, hji3⟩ : ∃ j_ : Int, (Int.tmod (wrap64 (a0)) 24) = j_ := ⟨_, rfl⟩
  replace H : (if 0 ≤ (ji3) then (if (ji3) < (y124.length : Int) then ((leader_Parse.f k (y124.set ((ji3) : Int).toNat a1)).bind fun bt128 => (if a1 ≥ 32 then (amanuensislaw19_LeaderPlaces.j0 k a1 ji3 (decide (a1 ≤ 126)) bt128.2.2.1 bt128.2.2.2) else (amanuensislaw19_LeaderPlaces.j0 k a1 ji3 false bt128.2.2.1 bt128.2.2.2))) else (none)) else (none)) = some r := by first | (rw [hji3] at H; exact H) | (simp only [hji3] at H ⊢; exact H)
  by_cases c4 : 0 ≤ (ji3)
  · rw [if_pos c4] at H
    have c4b0 : decide (0 ≤ (ji3)) = true := decide_eq_true c4
    clear c4
    by_cases c5 : (ji3) < (y124.length : Int)
    · rw [if_pos c5] at H
      have c5b0 : decide ((ji3) < (y124.length : Int)) = true := decide_eq_true c5
      clear c5
      obtain ⟨y127, hy127⟩ : ∃ y_ : List Int, y_ = (y124.set ((ji3) : Int).toNat a1) := ⟨_, rfl⟩
      replace H : ((leader_Parse.f k y127).bind fun bt128 => (if a1 ≥ 32 then (amanuensislaw19_LeaderPlaces.j0 k a1 ji3 (decide (a1 ≤ 126)) bt128.2.2.1 bt128.2.2.2) else (amanuensislaw19_LeaderPlaces.j0 k a1 ji3 false bt128.2.2.1 bt128.2.2.2))) = some r := by first | (rw [hy127]; with_reducible exact H) | (have H2_ := (Option.bind_some _ _).symm.trans H; rw [hy127]; with_reducible exact H2_) | (have H2_ := (Option.bind_some _ _).symm.trans H; with_reducible exact H2_) | with_reducible exact H | (rw [hy127]; exact H) | exact H
      have Ny127 := Aside0.mk hy127
      clear hy127
      replace H := Option.bind_eq_some_iff.mp H
      obtain ⟨⟨t128, t129, t130, t131⟩, A70, H⟩ := H
      replace H : (if a1 ≥ 32 then (amanuensislaw19_LeaderPlaces.j0 k a1 ji3 (decide (a1 ≤ 126)) t130 t131) else (amanuensislaw19_LeaderPlaces.j0 k a1 ji3 false t130 t131)) = some r := H
      have A7 := Aside0.mk A70
      clear A70
      have HC8 := Aside0.mk H
      clear H
      have eY := Ny124.out
      subst eY
      have eZ := Ny127.out
      have hj0 : 0 ≤ ji3 := of_decide_eq_true c4b0
      have hj1 : ji3 < (([48, 48, 48, 50, 54, 110, 97, 109, 32, 97, 50, 50, 48, 48, 48, 50, 53, 32, 97, 32, 52, 53, 48, 48] : List Int).length : Int) := of_decide_eq_true c5b0
      have kc := fun (w : World) (C : Array Value) (n c : Nat) => Lib.run_convert_bytes_const (P := Try.prog) w 22 5 C n c Try.underlying22 Try.underlying5
      have kx := fun (W : World) => const_cell W [48, 48, 48, 50, 54, 110, 97, 109, 32, 97, 50, 50, 48, 48, 48, 50, 53, 32, 97, 32, 52, 53, 48, 48] (24, 25) ji3 hj0 hj1
      simp only [List.map_cons, List.map_nil] at kx
      have kf := fun (W : World) (C : Array Value) => const_free W C 24 25 ji3.toNat (by simp only [List.length_cons, List.length_nil] at hj1; omega)
      have kb : decide (0 ≤ ji3) = true := c4b0
      have kb2 : decide (ji3 < 24) = true := decide_eq_true (by simp only [List.length_cons, List.length_nil] at hj1; omega)
      have hp0 := eq_true hj0
      have hp1 : (ji3 < 24) = True := eq_true (by simp only [List.length_cons, List.length_nil] at hj1; omega)
      clear hj0 hj1
      have hYl : y127.length = 24 := by rw [eZ]; simp
      have cr := const_reads_set w [48, 48, 48, 50, 54, 110, 97, 109, 32, 97, 50, 50, 48, 48, 48, 50, 53, 32, 97, 32, 52, 53, 48, 48] (24, 25) ji3.toNat a1 (by simp)
      rw [← eZ, hYl] at cr
      simp only [List.map_cons, List.map_nil] at cr
      have cc : ∀ W : World, Kd.C (Kd.int .u8) W (some ⟨w.heap.size, 0, none⟩) 24 y127 → Calls Try.prog 8 #[.slice (some ⟨w.heap.size, 0, none⟩) 24 24] W fun e w' => e = .returned (.tuple #[.int .i64 t128, .int .i64 t129, .agg #[.int .i64 t130, .int .i64 t131]]) ∧ Below W.heap.size W w' := by
        intro W hC
        have := leader_Parse.calls k (some ⟨w.heap.size, 0, none⟩) 24 y127 t128 t129 t130 t131 W (by rw [hYl]; exact hC) (by omega) A7.out
        rw [hYl] at this
        exact this
      clear hYl eZ
      go_enter Try.func4, Try.ntmps4
      go_wp2_with (fail)
      refine (cc _ ?side1).mono ?_
      case side1 => exact cr
      rintro e w13 ⟨rfl, hb⟩
      have n1_ := Aside0.mk (below_step (show Below w.heap.size w _ from below_set (by apply below_alloc; exact HB.out) (Nat.le_refl _)) hb)
      clear HB
      have HB := n1_
      clear n1_
      (try clear hb)
      (try clear hb2)
      (try clear hk)
      (try clear hi)
      go_upto_region 5 with (first | ((with_reducible refine gate_dst (N := 9) rfl ?_); refine box_event ?hg (N := 9) ?hd (cs := #[.int .i64 0, .int .i64 0]) (t := 26) ?hr ?_; (case hd => rfl); (case hg => rfl); (case hr => first | (go_simp; done) | (go_simp; rfl)); intro gb132 hg w14 hbox hb; have n1_ := Aside0.mk (below_step (by repeat (first | (with_reducible first | exact HB.out | apply below_alloc | apply pw_below_drewN | apply below_drew1) | exact HB.out)) hb); have n2_ := Aside0.mk (hbox); have n3_ := Aside0.mk ((by rw [hg]; exact (below_size (by repeat (first | (with_reducible first | exact HB.out | apply below_alloc | apply pw_below_drewN | apply below_drew1) | exact HB.out))) : w.heap.size ≤ gb132)); have n4_ := Aside0.mk ((by rw [hg]; exact (below_size (by repeat (first | (with_reducible first | exact HB.out | apply below_alloc | apply pw_below_drewN | apply below_drew1) | exact HB.out))) : w.heap.size ≤ gb132)); clear HB; have HB := n1_; have BK132 := n2_; have GW132 := n3_; have GE132 := n4_; clear n1_ n2_ n3_ n4_; clear hb hbox hg; have hcz15_0 : w14.cell? ⟨gb132, 0, none⟩ = some (.int .i64 0) := (blk_cell BK132.out 0).trans rfl; have hcz15_1 : w14.cell? ⟨gb132, 1, none⟩ = some (.int .i64 0) := (blk_cell BK132.out 1).trans rfl; have hfz15_0 := blk_frozen BK132.out 0; have hfz15_1 := blk_frozen BK132.out 1))
      (try simp only [Act.put, List.setIfInBounds_toArray, List.set_cons_zero, List.set_cons_succ])
      go_cut [10] (fun v10 wc => ∃ (kq : Nat) (x10_7 : Bool), v10 = .bool x10_7 ∧ Aside0 (amanuensislaw19_LeaderPlaces.j0 kq a1 ji3 x10_7 t130 t131 = some r) ∧ Aside0 (kq ≤ k) ∧ Aside0 (wc.heap[gb132]? = some (.cells #[.int .i64 t130, .int .i64 t131] 26 (0, 0))) ∧ Aside0 (Below w.heap.size w wc))
      case first =>
        have H := HC8.out
        clear HC8
        by_cases c16 : a1 ≥ 32
        · rw [if_pos c16] at H
          have c16b0 : decide (32 ≤ a1) = true := decide_eq_true c16
          clear c16
          (first | rw [c16b0] | (simp only [i64_w, i32_w]; rw [c16b0]) | skip)
          have H' := Aside0.mk H
          clear H
          go_wp2
          go_meet
          case rel => exact ⟨_, (decide (a1 ≤ 126)), (by first | rfl | (simp; done) | (simp [*]; done)), H', ⟨by first | omega | exact Nat.le_refl _⟩, ⟨by (with_reducible repeat (first | refine blk_drewN ?_ _ | refine blk_drew ?_ | refine blk_alloc ?_ _)); refine blk_put (cs := #[.int .i64 t130, .int .i64 0]) ?_ 1 _ rfl; (with_reducible repeat (first | refine blk_drewN ?_ _ | refine blk_drew ?_ | refine blk_alloc ?_ _)); refine blk_put (cs := #[.int .i64 0, .int .i64 0]) ?_ 0 _ rfl; (with_reducible repeat (first | refine blk_drewN ?_ _ | refine blk_drew ?_ | refine blk_alloc ?_ _)); exact BK132.out⟩, ⟨by repeat (first | (with_reducible first | exact HB.out | apply below_alloc | apply pw_below_drewN | apply below_drew1 | refine below_set ?_ GE132.out) | exact HB.out)⟩⟩
        · rw [if_neg c16] at H
          have c16b0 : decide (32 ≤ a1) = false := decide_eq_false c16
          clear c16
          (first | rw [c16b0] | (simp only [i64_w, i32_w]; rw [c16b0]) | skip)
          have H' := Aside0.mk H
          clear H
          go_wp2
          go_meet
          case rel => exact ⟨_, (false), (by first | rfl | (simp; done) | (simp [*]; done)), H', ⟨by first | omega | exact Nat.le_refl _⟩, ⟨by (with_reducible repeat (first | refine blk_drewN ?_ _ | refine blk_drew ?_ | refine blk_alloc ?_ _)); refine blk_put (cs := #[.int .i64 t130, .int .i64 0]) ?_ 1 _ rfl; (with_reducible repeat (first | refine blk_drewN ?_ _ | refine blk_drew ?_ | refine blk_alloc ?_ _)); refine blk_put (cs := #[.int .i64 0, .int .i64 0]) ?_ 0 _ rfl; (with_reducible repeat (first | refine blk_drewN ?_ _ | refine blk_drew ?_ | refine blk_alloc ?_ _)); exact BK132.out⟩, ⟨by repeat (first | (with_reducible first | exact HB.out | apply below_alloc | apply pw_below_drewN | apply below_drew1 | refine below_set ?_ GE132.out) | exact HB.out)⟩⟩
      case rest =>
        clear HC8
        try clear c1
        try clear p2
        try clear c4
        try clear c4b0
        try clear c5
        try clear c5b0
        try clear p6
        try clear q6
        try clear hx6
        try clear hf6
        try clear c8
        try clear c16
        try clear c16b0
        try clear hcz15_0
        try clear hcz15_1
        try clear hfz15_0
        try clear hfz15_1
        try clear hx6_0
        try clear p6
        try clear q6
        obtain ⟨kq, x10_7, rfl, HA, HJ7, BK132, HB⟩ := hcut
        cases kq with
        | zero => exact absurd HA.out (by simp [amanuensislaw19_LeaderPlaces.j0])
        | succ kj7 =>
          have H := HA.out
          clear HA
          simp only [amanuensislaw19_LeaderPlaces.j0] at H
          have HC17 := Aside0.mk H
          clear H
          go_upto_region 6 with (fail)
          go_cut [41] (fun v41 wc => ∃ (kq : Nat) (x41_16 : Bool), v41 = .bool x41_16 ∧ Aside0 (amanuensislaw19_LeaderPlaces.j1 kq a1 ji3 x10_7 x41_16 t130 t131 = some r) ∧ Aside0 (kq ≤ kj7) ∧ Aside0 (wc.heap[gb132]? = some (.cells #[.int .i64 t130, .int .i64 t131] 26 (0, 0))) ∧ Aside0 (Below w.heap.size w wc))
          case first =>
            have H := HC17.out
            clear HC17
            by_cases c18 : ji3 < 5
            · rw [if_pos c18] at H
              have c18b0 : decide (ji3 < 5) = true := decide_eq_true c18
              clear c18
              (first | rw [c18b0] | (simp only [i64_w, i32_w]; rw [c18b0]) | skip)
              have H' := Aside0.mk H
              clear H
              go_wp2
              go_meet
              case rel => exact ⟨_, (true), (by first | rfl | (simp; done) | (simp [*]; done)), H', ⟨by have := HJ7.out; first | omega | exact Nat.le_refl _⟩, ⟨by (with_reducible repeat (first | refine blk_drewN ?_ _ | refine blk_drew ?_ | refine blk_alloc ?_ _)); exact BK132.out⟩, ⟨by repeat (first | (with_reducible first | exact HB.out | apply below_alloc | apply pw_below_drewN | apply below_drew1 | refine below_set ?_ GE132.out) | exact HB.out)⟩⟩
            · rw [if_neg c18] at H
              have c18b0 : decide (ji3 < 5) = false := decide_eq_false c18
              clear c18
              (first | rw [c18b0] | (simp only [i64_w, i32_w]; rw [c18b0]) | skip)
              by_cases c19 : ji3 ≥ 12
              · rw [if_pos c19] at H
                have c19b0 : decide (12 ≤ ji3) = true := decide_eq_true c19
                clear c19
                have H' := Aside0.mk H
                clear H
                go_wp2
                go_meet
                case rel => exact ⟨_, (decide (ji3 < 17)), (by first | rfl | (simp; done) | (simp only [← hji3] <;> (first | rfl | simp)) | (simp [*]; done)), H', ⟨by have := HJ7.out; first | omega | exact Nat.le_refl _⟩, ⟨by (with_reducible repeat (first | refine blk_drewN ?_ _ | refine blk_drew ?_ | refine blk_alloc ?_ _)); exact BK132.out⟩, ⟨by repeat (first | (with_reducible first | exact HB.out | apply below_alloc | apply pw_below_drewN | apply below_drew1 | refine below_set ?_ GE132.out) | exact HB.out)⟩⟩
              · rw [if_neg c19] at H
                have c19b0 : decide (12 ≤ ji3) = false := decide_eq_false c19
                clear c19
                have H' := Aside0.mk H
                clear H
                go_wp2
                go_meet
                case rel => exact ⟨_, (false), (by first | rfl | (simp; done) | (simp [*]; done)), H', ⟨by have := HJ7.out; first | omega | exact Nat.le_refl _⟩, ⟨by (with_reducible repeat (first | refine blk_drewN ?_ _ | refine blk_drew ?_ | refine blk_alloc ?_ _)); exact BK132.out⟩, ⟨by repeat (first | (with_reducible first | exact HB.out | apply below_alloc | apply pw_below_drewN | apply below_drew1 | refine below_set ?_ GE132.out) | exact HB.out)⟩⟩
          case rest =>
            clear HC17
            try clear c1
            try clear p2
            try clear c4
            try clear c4b0
            try clear c5
            try clear c5b0
            try clear p6
            try clear q6
            try clear hx6
            try clear hf6
            try clear c8
            try clear c16
            try clear c16b0
            try clear c18
            try clear c18b0
            try clear c19
            try clear c19b0
            try clear hcz15_0
            try clear hcz15_1
            try clear hfz15_0
            try clear hfz15_1
            try clear hx6_0
            try clear p2
            try clear p6
            try clear q6
            obtain ⟨kq, x41_16, rfl, HA, HJ16, BK132, HB⟩ := hcut
            cases kq with
            | zero => exact absurd HA.out (by simp [amanuensislaw19_LeaderPlaces.j1])
            | succ kj16 =>
              have H := HA.out
              clear HA
              simp only [amanuensislaw19_LeaderPlaces.j1] at H
              have HC20 := Aside0.mk H
              clear H
              go_upto_if 41 with (fail)
              go_cut [10] (fun v10 wc => ∃ (kq : Nat) (x10_19 : Bool), v10 = .bool x10_19 ∧ Aside0 (amanuensislaw19_LeaderPlaces.j2 kq a1 ji3 x10_19 t130 t131 = some r) ∧ Aside0 (kq ≤ kj16) ∧ Aside0 (wc.heap[gb132]? = some (.cells #[.int .i64 t130, .int .i64 t131] 26 (0, 0))) ∧ Aside0 (Below w.heap.size w wc))
              case first =>
                have H := HC20.out
                clear HC20
                by_cases c21 : x41_16 = true
                · subst c21
                  have H1 : (if a1 ≥ 48 then (amanuensislaw19_LeaderPlaces.j2 kj16 a1 ji3 (decide (a1 ≤ 57)) t130 t131) else (amanuensislaw19_LeaderPlaces.j2 kj16 a1 ji3 false t130 t131)) = some r := by rw [if_pos rfl] at H; exact H
                  clear H
                  have H := H1
                  clear H1
                  by_cases c22 : a1 ≥ 48
                  · rw [if_pos c22] at H
                    have c22b0 : decide (48 ≤ a1) = true := decide_eq_true c22
                    clear c22
                    (first | rw [c22b0] | (simp only [i64_w, i32_w]; rw [c22b0]) | skip)
                    have H' := Aside0.mk H
                    clear H
                    go_wp2
                    go_meet
                    case rel => exact ⟨_, (decide (a1 ≤ 57)), (by first | rfl | (simp; done) | (simp [*]; done)), H', ⟨by have := HJ7.out; have := HJ16.out; first | omega | exact Nat.le_refl _⟩, ⟨by (with_reducible repeat (first | refine blk_drewN ?_ _ | refine blk_drew ?_ | refine blk_alloc ?_ _)); exact BK132.out⟩, ⟨by repeat (first | (with_reducible first | exact HB.out | apply below_alloc | apply pw_below_drewN | apply below_drew1 | refine below_set ?_ GE132.out) | exact HB.out)⟩⟩
                  · rw [if_neg c22] at H
                    have c22b0 : decide (48 ≤ a1) = false := decide_eq_false c22
                    clear c22
                    (first | rw [c22b0] | (simp only [i64_w, i32_w]; rw [c22b0]) | skip)
                    have H' := Aside0.mk H
                    clear H
                    go_wp2
                    go_meet
                    case rel => exact ⟨_, (false), (by first | rfl | (simp; done) | (simp [*]; done)), H', ⟨by have := HJ7.out; have := HJ16.out; first | omega | exact Nat.le_refl _⟩, ⟨by (with_reducible repeat (first | refine blk_drewN ?_ _ | refine blk_drew ?_ | refine blk_alloc ?_ _)); exact BK132.out⟩, ⟨by repeat (first | (with_reducible first | exact HB.out | apply below_alloc | apply pw_below_drewN | apply below_drew1 | refine below_set ?_ GE132.out) | exact HB.out)⟩⟩
                · replace c21 := Bool.eq_false_iff.mpr c21
                  subst c21
                  have H1 : (amanuensislaw19_LeaderPlaces.j2 kj16 a1 ji3 x10_7 t130 t131) = some r := by rw [if_neg (show ¬ (false = true) by decide)] at H; exact H
                  clear H
                  have H := H1
                  clear H1
                  have H' := Aside0.mk H
                  clear H
                  go_wp2
                  go_meet
                  case rel => exact ⟨_, (x10_7), (by first | rfl | (simp; done) | (simp [*]; done)), H', ⟨by have := HJ7.out; have := HJ16.out; first | omega | exact Nat.le_refl _⟩, ⟨by (with_reducible repeat (first | refine blk_drewN ?_ _ | refine blk_drew ?_ | refine blk_alloc ?_ _)); exact BK132.out⟩, ⟨by repeat (first | (with_reducible first | exact HB.out | apply below_alloc | apply pw_below_drewN | apply below_drew1 | refine below_set ?_ GE132.out) | exact HB.out)⟩⟩
              case rest =>
                clear HC20
                try clear c1
                try clear c2
                try clear p2
                try clear c4
                try clear c4b0
                try clear c5
                try clear c5b0
                try clear p6
                try clear q6
                try clear hx6
                try clear hf6
                try clear c8
                try clear c16
                try clear c16b0
                try clear c18
                try clear c18b0
                try clear c19
                try clear c19b0
                try clear c21
                try clear c22
                try clear c22b0
                try clear hcz15_0
                try clear hcz15_1
                try clear hfz15_0
                try clear hfz15_1
                try clear hx6_0
                try clear p2
                try clear p6
                try clear q6
                obtain ⟨kq, x10_19, rfl, HA, HJ19, BK132, HB⟩ := hcut
                cases kq with
                | zero => exact absurd HA.out (by simp [amanuensislaw19_LeaderPlaces.j2])
                | succ kj19 =>
                  have H := HA.out
                  clear HA
                  simp only [amanuensislaw19_LeaderPlaces.j2] at H
                  have HC23 := Aside0.mk H
                  clear H
                  go_upto_if 49 with (fail)
                  go_cut [10] (fun v10 wc => ∃ (kq : Nat) (x10_22 : Bool), v10 = .bool x10_22 ∧ Aside0 (amanuensislaw19_LeaderPlaces.j3 kq a1 ji3 x10_22 t130 t131 = some r) ∧ Aside0 (kq ≤ kj19) ∧ Aside0 (wc.heap[gb132]? = some (.cells #[.int .i64 t130, .int .i64 t131] 26 (0, 0))) ∧ Aside0 (Below w.heap.size w wc))
                  case first =>
                    have H := HC23.out
                    clear HC23
                    by_cases c24 : ji3 = 9
                    · rw [if_pos c24] at H
                      have c24b0 : (ji3 == 9) = true := beq_iff_eq.mpr c24
                      have c24b1 : (ji3 != 9) = false := bne_eq_false_iff_eq.mpr c24
                      clear c24
                      (first | rw [c24b0] | (simp only [i64_w, i32_w]; rw [c24b0]) | skip)
                      by_cases c25 : a1 = 32
                      · rw [if_pos c25] at H
                        have c25b0 : (a1 == 32) = true := beq_iff_eq.mpr c25
                        have c25b1 : (a1 != 32) = false := bne_eq_false_iff_eq.mpr c25
                        clear c25
                        have H' := Aside0.mk H
                        clear H
                        go_wp2
                        go_meet
                        case rel => exact ⟨_, (true), (by first | rfl | (simp; done) | (simp [*]; done)), H', ⟨by have := HJ7.out; have := HJ16.out; have := HJ19.out; first | omega | exact Nat.le_refl _⟩, ⟨by (with_reducible repeat (first | refine blk_drewN ?_ _ | refine blk_drew ?_ | refine blk_alloc ?_ _)); exact BK132.out⟩, ⟨by repeat (first | (with_reducible first | exact HB.out | apply below_alloc | apply pw_below_drewN | apply below_drew1 | refine below_set ?_ GE132.out) | exact HB.out)⟩⟩
                      · rw [if_neg c25] at H
                        have c25b0 : (a1 == 32) = false := beq_eq_false_iff_ne.mpr c25
                        have c25b1 : (a1 != 32) = true := bne_iff_ne.mpr c25
                        have H' := Aside0.mk H
                        clear H
                        go_wp2
                        go_meet
                        case rel => exact ⟨_, ((a1 == 97)), (by first | rfl | (simp; done) | (simp [*]; done)), H', ⟨by have := HJ7.out; have := HJ16.out; have := HJ19.out; first | omega | exact Nat.le_refl _⟩, ⟨by (with_reducible repeat (first | refine blk_drewN ?_ _ | refine blk_drew ?_ | refine blk_alloc ?_ _)); exact BK132.out⟩, ⟨by repeat (first | (with_reducible first | exact HB.out | apply below_alloc | apply pw_below_drewN | apply below_drew1 | refine below_set ?_ GE132.out) | exact HB.out)⟩⟩
                    · rw [if_neg c24] at H
                      have c24b0 : (ji3 == 9) = false := beq_eq_false_iff_ne.mpr c24
                      have c24b1 : (ji3 != 9) = true := bne_iff_ne.mpr c24
                      (first | rw [c24b0] | (simp only [i64_w, i32_w]; rw [c24b0]) | skip)
                      have H' := Aside0.mk H
                      clear H
                      go_wp2
                      go_meet
                      case rel => exact ⟨_, (x10_19), (by first | rfl | (simp; done) | (simp [*]; done)), H', ⟨by have := HJ7.out; have := HJ16.out; have := HJ19.out; first | omega | exact Nat.le_refl _⟩, ⟨by (with_reducible repeat (first | refine blk_drewN ?_ _ | refine blk_drew ?_ | refine blk_alloc ?_ _)); exact BK132.out⟩, ⟨by repeat (first | (with_reducible first | exact HB.out | apply below_alloc | apply pw_below_drewN | apply below_drew1 | refine below_set ?_ GE132.out) | exact HB.out)⟩⟩
                  case rest =>
                    clear HC23
                    try clear c1
                    try clear c2
                    try clear p2
                    try clear c4
                    try clear c4b0
                    try clear c5
                    try clear c5b0
                    try clear p6
                    try clear q6
                    try clear hx6
                    try clear hf6
                    try clear c8
                    try clear c16
                    try clear c16b0
                    try clear c18
                    try clear c18b0
                    try clear c19
                    try clear c19b0
                    try clear c21
                    try clear c22
                    try clear c22b0
                    try clear c24
                    try clear c24b0
                    try clear c24b1
                    try clear c25
                    try clear c25b0
                    try clear c25b1
                    try clear hcz15_0
                    try clear hcz15_1
                    try clear hfz15_0
                    try clear hfz15_1
                    try clear hx6_0
                    try clear p2
                    try clear p6
                    try clear q6
                    obtain ⟨kq, x10_22, rfl, HA, HJ22, BK132, HB⟩ := hcut
                    cases kq with
                    | zero => exact absurd HA.out (by simp [amanuensislaw19_LeaderPlaces.j3])
                    | succ kj22 =>
                      have H := HA.out
                      clear HA
                      simp only [amanuensislaw19_LeaderPlaces.j3] at H
                      have HC26 := Aside0.mk H
                      clear H
                      go_upto_region 10 with (fail)
                      go_cut [61] (fun v61 wc => ∃ (kq : Nat) (x61_25 : Bool), v61 = .bool x61_25 ∧ Aside0 (amanuensislaw19_LeaderPlaces.j4 kq a1 ji3 x10_22 x61_25 t130 t131 = some r) ∧ Aside0 (kq ≤ kj22) ∧ Aside0 (wc.heap[gb132]? = some (.cells #[.int .i64 t130, .int .i64 t131] 26 (0, 0))) ∧ Aside0 (Below w.heap.size w wc))
                      case first =>
                        have H := HC26.out
                        clear HC26
                        by_cases c27 : ji3 = 10
                        · rw [if_pos c27] at H
                          have c27b0 : (ji3 == 10) = true := beq_iff_eq.mpr c27
                          have c27b1 : (ji3 != 10) = false := bne_eq_false_iff_eq.mpr c27
                          clear c27
                          (first | rw [c27b0] | (simp only [i64_w, i32_w]; rw [c27b0]) | skip)
                          have H' := Aside0.mk H
                          clear H
                          go_wp2
                          go_meet
                          case rel => exact ⟨_, (true), (by first | rfl | (simp; done) | (simp [*]; done)), H', ⟨by have := HJ7.out; have := HJ16.out; have := HJ19.out; have := HJ22.out; first | omega | exact Nat.le_refl _⟩, ⟨by (with_reducible repeat (first | refine blk_drewN ?_ _ | refine blk_drew ?_ | refine blk_alloc ?_ _)); exact BK132.out⟩, ⟨by repeat (first | (with_reducible first | exact HB.out | apply below_alloc | apply pw_below_drewN | apply below_drew1 | refine below_set ?_ GE132.out) | exact HB.out)⟩⟩
                        · rw [if_neg c27] at H
                          have c27b0 : (ji3 == 10) = false := beq_eq_false_iff_ne.mpr c27
                          have c27b1 : (ji3 != 10) = true := bne_iff_ne.mpr c27
                          (first | rw [c27b0] | (simp only [i64_w, i32_w]; rw [c27b0]) | skip)
                          have H' := Aside0.mk H
                          clear H
                          go_wp2
                          go_meet
                          case rel => exact ⟨_, ((ji3 == 11)), (by first | rfl | (simp; done) | (simp only [← hji3] <;> (first | rfl | simp)) | (simp [*]; done)), H', ⟨by have := HJ7.out; have := HJ16.out; have := HJ19.out; have := HJ22.out; first | omega | exact Nat.le_refl _⟩, ⟨by (with_reducible repeat (first | refine blk_drewN ?_ _ | refine blk_drew ?_ | refine blk_alloc ?_ _)); exact BK132.out⟩, ⟨by repeat (first | (with_reducible first | exact HB.out | apply below_alloc | apply pw_below_drewN | apply below_drew1 | refine below_set ?_ GE132.out) | exact HB.out)⟩⟩
                      case rest =>
                        clear HC26
                        try clear c1
                        try clear c2
                        try clear p2
                        try clear c4
                        try clear c4b0
                        try clear c5
                        try clear c5b0
                        try clear p6
                        try clear q6
                        try clear hx6
                        try clear hf6
                        try clear c8
                        try clear c16
                        try clear c16b0
                        try clear c18
                        try clear c18b0
                        try clear c19
                        try clear c19b0
                        try clear c21
                        try clear c22
                        try clear c22b0
                        try clear c24
                        try clear c24b0
                        try clear c24b1
                        try clear c25
                        try clear c25b0
                        try clear c25b1
                        try clear c27
                        try clear c27b0
                        try clear c27b1
                        try clear hcz15_0
                        try clear hcz15_1
                        try clear hfz15_0
                        try clear hfz15_1
                        try clear hx6_0
                        try clear p2
                        try clear p6
                        try clear q6
                        obtain ⟨kq, x61_25, rfl, HA, HJ25, BK132, HB⟩ := hcut
                        cases kq with
                        | zero => exact absurd HA.out (by simp [amanuensislaw19_LeaderPlaces.j4])
                        | succ kj25 =>
                          have H := HA.out
                          clear HA
                          simp only [amanuensislaw19_LeaderPlaces.j4] at H
                          by_cases c28 : x61_25 = true
                          · subst c28
                            have H1 : (if ji3 ≥ 20 then (if 0 ≤ (wrap64 (ji3 - 20)) then (if (wrap64 (ji3 - 20)) < 4 then ((amanuensislaw19_answers.f kj25).bind fun t133 => (if t133 = true then (if ((t130 == 0) == (a1 == (bt (⟨#[52, 53, 48, 48]⟩ : ByteArray) (wrap64 (ji3 - 20))))) = true then (if a1 = (bt (⟨#[52, 53, 48, 48]⟩ : ByteArray) (wrap64 (ji3 - 20))) then (some true) else (some (t130 == 10 && (t131 == ji3)))) else (some false)) else (some false))) else (none)) else (none)) else ((amanuensislaw19_answers.f kj25).bind fun t134 => (if t134 = true then (if ((t130 == 0) == (a1 == 50)) = true then (if a1 = 50 then (some true) else (some (t130 == 10 && (t131 == ji3)))) else (some false)) else (some false)))) = some r := by rw [if_pos rfl] at H; exact H
                            clear H
                            have H := H1
                            clear H1
                            by_cases c29 : ji3 ≥ 20
                            · rw [if_pos c29] at H
                              have c29b0 : decide (20 ≤ ji3) = true := decide_eq_true c29
                              clear c29
                              obtain ⟨ji30, hji30⟩ : ∃ j_ : Int, (wrap64 (ji3 - 20)) = j_ := ⟨_, rfl⟩
                              replace H : (if 0 ≤ (ji30) then (if (ji30) < 4 then ((amanuensislaw19_answers.f kj25).bind fun t133 => (if t133 = true then (if ((t130 == 0) == (a1 == (bt (⟨#[52, 53, 48, 48]⟩ : ByteArray) (ji30)))) = true then (if a1 = (bt (⟨#[52, 53, 48, 48]⟩ : ByteArray) (ji30)) then (some true) else (some (t130 == 10 && (t131 == ji3)))) else (some false)) else (some false))) else (none)) else (none)) = some r := by first | (rw [hji30] at H; exact H) | (simp only [hji30] at H ⊢; exact H)
                              have hji30w : (IntKind.i64.wrap (ji3 - 20)) = ji30 := (i64_w _).trans hji30
                              by_cases c31 : 0 ≤ (ji30)
                              · rw [if_pos c31] at H
                                have c31b0 : decide (0 ≤ (ji30)) = true := decide_eq_true c31
                                clear c31
                                by_cases c32 : (ji30) < 4
                                · rw [if_pos c32] at H
                                  have c32b0 : decide ((ji30) < 4) = true := decide_eq_true c32
                                  clear c32
                                  replace H := Option.bind_eq_some_iff.mp H
                                  obtain ⟨t133, A340, H⟩ := H
                                  replace H : (if t133 = true then (if ((t130 == 0) == (a1 == (bt (⟨#[52, 53, 48, 48]⟩ : ByteArray) (ji30)))) = true then (if a1 = (bt (⟨#[52, 53, 48, 48]⟩ : ByteArray) (ji30)) then (some true) else (some (t130 == 10 && (t131 == ji3)))) else (some false)) else (some false)) = some r := H
                                  have A34 := Aside0.mk A340
                                  clear A340
                                  by_cases c35 : t133 = true
                                  · subst c35
                                    have H1 : (if ((t130 == 0) == (a1 == (bt (⟨#[52, 53, 48, 48]⟩ : ByteArray) (ji30)))) = true then (if a1 = (bt (⟨#[52, 53, 48, 48]⟩ : ByteArray) (ji30)) then (some true) else (some (t130 == 10 && (t131 == ji3)))) else (some false)) = some r := by rw [if_pos rfl] at H; exact H
                                    clear H
                                    have H := H1
                                    clear H1
                                    by_cases c36 : ((t130 == 0) == (a1 == (bt (⟨#[52, 53, 48, 48]⟩ : ByteArray) (ji30)))) = true
                                    · rw [if_pos c36] at H
                                      have c36b0 : ((t130 == 0) == (a1 == (bt (⟨#[52, 53, 48, 48]⟩ : ByteArray) (ji30)))) = true := c36
                                      (try (have c36b1 : decide ((t130 == 0) = (a1 == (bt (⟨#[52, 53, 48, 48]⟩ : ByteArray) (ji30)))) = true := by simpa using c36))
                                      (try (have c36b2 : ((t130 == 0) == (a1 == (bt (⟨#[52, 53, 48, 48]⟩ : ByteArray) (ji30)))) = true := by simpa using c36))
                                      clear c36
                                      by_cases c37 : a1 = (bt (⟨#[52, 53, 48, 48]⟩ : ByteArray) (ji30))
                                      · rw [if_pos c37] at H
                                        have c37b0 : (a1 == (bt (⟨#[52, 53, 48, 48]⟩ : ByteArray) (ji30))) = true := beq_iff_eq.mpr c37
                                        have c37b1 : (a1 != (bt (⟨#[52, 53, 48, 48]⟩ : ByteArray) (ji30))) = false := bne_eq_false_iff_eq.mpr c37
                                        have cz0 : (t130 == 0) = true := by have e := c36b0; rw [c37b0] at e; simpa using e
                                        have cz1 : (t130 != 0) = false := by rw [bne, cz0]; rfl
                                        clear c37
                                        obtain rfl := Option.some.inj H
                                        have p33 : 0 ≤ ((ji30) : Int) := of_decide_eq_true (by first | (with_reducible assumption) | assumption)
                                        have q33 : (ji30) < (4 : Int) := of_decide_eq_true (by first | (with_reducible assumption) | assumption)
                                        have hx33 := bt_at (⟨#[52, 53, 48, 48]⟩ : ByteArray) (ji30)
                                        replace p33 := eq_true p33
                                        replace q33 := eq_true q33
                                        go_wp2_with (first | ((with_reducible refine gate_callee (f := 7) rfl ?_); refine goesL_ (some 71) rfl rfl Try.func7 (by kernel_rfl) rfl #[] rfl (by (try simp only [List.map_toArray, List.map_cons, List.map_nil]); first | done | rfl | (simp only [List.length_drop, List.length_take]; rfl)) ?_; (with_reducible refine (amanuensislaw19_answers.calls kj25  true _ A34.out).mono ?_); rintro e w38 ⟨rfl, hb⟩; refine ⟨_, rfl, ?_⟩; have n0_ := Aside0.mk (blk_below (g := gb132) (o := .cells #[.int .i64 t130, .int .i64 t131] 26 (0, 0)) (by (with_reducible repeat (first | refine blk_drewN ?_ _ | refine blk_drew ?_ | refine blk_alloc ?_ _)); exact BK132.out) hb); have n1_ := Aside0.mk (below_step (by repeat (first | (with_reducible first | exact HB.out | apply below_alloc | apply pw_below_drewN | apply below_drew1 | refine below_set ?_ GE132.out) | exact HB.out)) hb); clear BK132; clear HB; have BK132 := n0_; have HB := n1_; clear n0_ n1_; (try clear hb); (try clear hb2); (try clear hk); (try clear hi); have hcz39_0 : w38.cell? ⟨gb132, 0, none⟩ = some (.int .i64 t130) := (blk_cell BK132.out 0).trans rfl; have hcz39_1 : w38.cell? ⟨gb132, 1, none⟩ = some (.int .i64 t131) := (blk_cell BK132.out 1).trans rfl; have hfz39_0 := blk_frozen BK132.out 0; have hfz39_1 := blk_frozen BK132.out 1))
                                        go_ret
                                        exact ⟨by first | rfl | (simp [errW_none, errW_some] <;> rfl) | (simp only [← hji3, ← hji30]; first | rfl | (simp [errW_none, errW_some] <;> rfl)) | (simp [*, errW_none, errW_some] <;> rfl), by repeat (first | (with_reducible first | exact HB.out | apply below_alloc | apply pw_below_drewN | apply below_drew1 | refine below_set ?_ GE132.out) | exact HB.out)⟩
                                      · rw [if_neg c37] at H
                                        have c37b0 : (a1 == (bt (⟨#[52, 53, 48, 48]⟩ : ByteArray) (ji30))) = false := beq_eq_false_iff_ne.mpr c37
                                        have c37b1 : (a1 != (bt (⟨#[52, 53, 48, 48]⟩ : ByteArray) (ji30))) = true := bne_iff_ne.mpr c37
                                        have cz0 : (t130 == 0) = false := by have e := c36b0; rw [c37b0] at e; simpa using e
                                        have cz1 : (t130 != 0) = true := by rw [bne, cz0]; rfl
                                        obtain rfl := Option.some.inj H
                                        have p33 : 0 ≤ ((ji30) : Int) := of_decide_eq_true (by first | (with_reducible assumption) | assumption)
                                        have q33 : (ji30) < (4 : Int) := of_decide_eq_true (by first | (with_reducible assumption) | assumption)
                                        have hx33 := bt_at (⟨#[52, 53, 48, 48]⟩ : ByteArray) (ji30)
                                        replace p33 := eq_true p33
                                        replace q33 := eq_true q33
                                        go_wp2_with (first | ((with_reducible refine gate_callee (f := 7) rfl ?_); refine goesL_ (some 71) rfl rfl Try.func7 (by kernel_rfl) rfl #[] rfl (by (try simp only [List.map_toArray, List.map_cons, List.map_nil]); first | done | rfl | (simp only [List.length_drop, List.length_take]; rfl)) ?_; (with_reducible refine (amanuensislaw19_answers.calls kj25  true _ A34.out).mono ?_); rintro e w40 ⟨rfl, hb⟩; refine ⟨_, rfl, ?_⟩; have n0_ := Aside0.mk (blk_below (g := gb132) (o := .cells #[.int .i64 t130, .int .i64 t131] 26 (0, 0)) (by (with_reducible repeat (first | refine blk_drewN ?_ _ | refine blk_drew ?_ | refine blk_alloc ?_ _)); exact BK132.out) hb); have n1_ := Aside0.mk (below_step (by repeat (first | (with_reducible first | exact HB.out | apply below_alloc | apply pw_below_drewN | apply below_drew1 | refine below_set ?_ GE132.out) | exact HB.out)) hb); clear BK132; clear HB; have BK132 := n0_; have HB := n1_; clear n0_ n1_; (try clear hb); (try clear hb2); (try clear hk); (try clear hi); have hcz41_0 : w40.cell? ⟨gb132, 0, none⟩ = some (.int .i64 t130) := (blk_cell BK132.out 0).trans rfl; have hcz41_1 : w40.cell? ⟨gb132, 1, none⟩ = some (.int .i64 t131) := (blk_cell BK132.out 1).trans rfl; have hfz41_0 := blk_frozen BK132.out 0; have hfz41_1 := blk_frozen BK132.out 1))
                                        go_ret
                                        exact ⟨by first | rfl | (simp [errW_none, errW_some] <;> rfl) | (simp only [← hji3, ← hji30]; first | rfl | (simp [errW_none, errW_some] <;> rfl)) | (simp [*, errW_none, errW_some] <;> rfl), by repeat (first | (with_reducible first | exact HB.out | apply below_alloc | apply pw_below_drewN | apply below_drew1 | refine below_set ?_ GE132.out) | exact HB.out)⟩
                                    · rw [if_neg c36] at H
                                      have c36b0 : ((t130 == 0) == (a1 == (bt (⟨#[52, 53, 48, 48]⟩ : ByteArray) (ji30)))) = false := by simpa using c36
                                      (try (have c36b1 : decide ((t130 == 0) = (a1 == (bt (⟨#[52, 53, 48, 48]⟩ : ByteArray) (ji30)))) = false := by simpa using c36))
                                      (try (have c36b2 : ((t130 == 0) == (a1 == (bt (⟨#[52, 53, 48, 48]⟩ : ByteArray) (ji30)))) = false := by simpa using c36))
                                      (try (have c36b3 : ¬ ((t130 == 0) = (a1 == (bt (⟨#[52, 53, 48, 48]⟩ : ByteArray) (ji30)))) := by simpa using c36))
                                      clear c36
                                      obtain rfl := Option.some.inj H
                                      have p33 : 0 ≤ ((ji30) : Int) := of_decide_eq_true (by first | (with_reducible assumption) | assumption)
                                      have q33 : (ji30) < (4 : Int) := of_decide_eq_true (by first | (with_reducible assumption) | assumption)
                                      have hx33 := bt_at (⟨#[52, 53, 48, 48]⟩ : ByteArray) (ji30)
                                      replace p33 := eq_true p33
                                      replace q33 := eq_true q33
                                      go_wp2_with (first | ((with_reducible refine gate_callee (f := 7) rfl ?_); refine goesL_ (some 71) rfl rfl Try.func7 (by kernel_rfl) rfl #[] rfl (by (try simp only [List.map_toArray, List.map_cons, List.map_nil]); first | done | rfl | (simp only [List.length_drop, List.length_take]; rfl)) ?_; (with_reducible refine (amanuensislaw19_answers.calls kj25  true _ A34.out).mono ?_); rintro e w42 ⟨rfl, hb⟩; refine ⟨_, rfl, ?_⟩; have n0_ := Aside0.mk (blk_below (g := gb132) (o := .cells #[.int .i64 t130, .int .i64 t131] 26 (0, 0)) (by (with_reducible repeat (first | refine blk_drewN ?_ _ | refine blk_drew ?_ | refine blk_alloc ?_ _)); exact BK132.out) hb); have n1_ := Aside0.mk (below_step (by repeat (first | (with_reducible first | exact HB.out | apply below_alloc | apply pw_below_drewN | apply below_drew1 | refine below_set ?_ GE132.out) | exact HB.out)) hb); clear BK132; clear HB; have BK132 := n0_; have HB := n1_; clear n0_ n1_; (try clear hb); (try clear hb2); (try clear hk); (try clear hi); have hcz43_0 : w42.cell? ⟨gb132, 0, none⟩ = some (.int .i64 t130) := (blk_cell BK132.out 0).trans rfl; have hcz43_1 : w42.cell? ⟨gb132, 1, none⟩ = some (.int .i64 t131) := (blk_cell BK132.out 1).trans rfl; have hfz43_0 := blk_frozen BK132.out 0; have hfz43_1 := blk_frozen BK132.out 1))
                                      go_ret
                                      exact ⟨by first | rfl | (simp [errW_none, errW_some] <;> rfl) | (simp only [← hji3, ← hji30]; first | rfl | (simp [errW_none, errW_some] <;> rfl)) | (simp [*, errW_none, errW_some] <;> rfl), by repeat (first | (with_reducible first | exact HB.out | apply below_alloc | apply pw_below_drewN | apply below_drew1 | refine below_set ?_ GE132.out) | exact HB.out)⟩
                                  · replace c35 := Bool.eq_false_iff.mpr c35
                                    subst c35
                                    have H1 : (some false) = some r := by rw [if_neg (show ¬ (false = true) by decide)] at H; exact H
                                    clear H
                                    have H := H1
                                    clear H1
                                    obtain rfl := Option.some.inj H
                                    have p33 : 0 ≤ ((ji30) : Int) := of_decide_eq_true (by first | (with_reducible assumption) | assumption)
                                    have q33 : (ji30) < (4 : Int) := of_decide_eq_true (by first | (with_reducible assumption) | assumption)
                                    have hx33 := bt_at (⟨#[52, 53, 48, 48]⟩ : ByteArray) (ji30)
                                    replace p33 := eq_true p33
                                    replace q33 := eq_true q33
                                    go_wp2_with (first | ((with_reducible refine gate_callee (f := 7) rfl ?_); refine goesL_ (some 71) rfl rfl Try.func7 (by kernel_rfl) rfl #[] rfl (by (try simp only [List.map_toArray, List.map_cons, List.map_nil]); first | done | rfl | (simp only [List.length_drop, List.length_take]; rfl)) ?_; (with_reducible refine (amanuensislaw19_answers.calls kj25  false _ A34.out).mono ?_); rintro e w44 ⟨rfl, hb⟩; refine ⟨_, rfl, ?_⟩; have n0_ := Aside0.mk (blk_below (g := gb132) (o := .cells #[.int .i64 t130, .int .i64 t131] 26 (0, 0)) (by (with_reducible repeat (first | refine blk_drewN ?_ _ | refine blk_drew ?_ | refine blk_alloc ?_ _)); exact BK132.out) hb); have n1_ := Aside0.mk (below_step (by repeat (first | (with_reducible first | exact HB.out | apply below_alloc | apply pw_below_drewN | apply below_drew1 | refine below_set ?_ GE132.out) | exact HB.out)) hb); clear BK132; clear HB; have BK132 := n0_; have HB := n1_; clear n0_ n1_; (try clear hb); (try clear hb2); (try clear hk); (try clear hi)))
                                    go_ret
                                    exact ⟨by first | rfl | (simp [errW_none, errW_some] <;> rfl) | (simp only [← hji3, ← hji30]; first | rfl | (simp [errW_none, errW_some] <;> rfl)) | (simp [*, errW_none, errW_some] <;> rfl), by repeat (first | (with_reducible first | exact HB.out | apply below_alloc | apply pw_below_drewN | apply below_drew1 | refine below_set ?_ GE132.out) | exact HB.out)⟩
                                · rw [if_neg c32] at H
                                  exact absurd H (by simp)
                              · rw [if_neg c31] at H
                                exact absurd H (by simp)
                            · rw [if_neg c29] at H
                              have c29b0 : decide (20 ≤ ji3) = false := decide_eq_false c29
                              clear c29
                              replace H := Option.bind_eq_some_iff.mp H
                              obtain ⟨t134, A450, H⟩ := H
                              replace H : (if t134 = true then (if ((t130 == 0) == (a1 == 50)) = true then (if a1 = 50 then (some true) else (some (t130 == 10 && (t131 == ji3)))) else (some false)) else (some false)) = some r := H
                              have A45 := Aside0.mk A450
                              clear A450
                              by_cases c46 : t134 = true
                              · subst c46
                                have H1 : (if ((t130 == 0) == (a1 == 50)) = true then (if a1 = 50 then (some true) else (some (t130 == 10 && (t131 == ji3)))) else (some false)) = some r := by rw [if_pos rfl] at H; exact H
                                clear H
                                have H := H1
                                clear H1
                                by_cases c47 : ((t130 == 0) == (a1 == 50)) = true
                                · rw [if_pos c47] at H
                                  have c47b0 : ((t130 == 0) == (a1 == 50)) = true := c47
                                  (try (have c47b1 : decide ((t130 == 0) = (a1 == 50)) = true := by simpa using c47))
                                  (try (have c47b2 : ((t130 == 0) == (a1 == 50)) = true := by simpa using c47))
                                  clear c47
                                  by_cases c48 : a1 = 50
                                  · rw [if_pos c48] at H
                                    have c48b0 : (a1 == 50) = true := beq_iff_eq.mpr c48
                                    have c48b1 : (a1 != 50) = false := bne_eq_false_iff_eq.mpr c48
                                    have cz0 : (t130 == 0) = true := by have e := c47b0; rw [c48b0] at e; simpa using e
                                    have cz1 : (t130 != 0) = false := by rw [bne, cz0]; rfl
                                    clear c48
                                    obtain rfl := Option.some.inj H
                                    go_wp2_with (first | ((with_reducible refine gate_callee (f := 7) rfl ?_); refine goesL_ (some 71) rfl rfl Try.func7 (by kernel_rfl) rfl #[] rfl (by (try simp only [List.map_toArray, List.map_cons, List.map_nil]); first | done | rfl | (simp only [List.length_drop, List.length_take]; rfl)) ?_; (with_reducible refine (amanuensislaw19_answers.calls kj25  true _ A45.out).mono ?_); rintro e w49 ⟨rfl, hb⟩; refine ⟨_, rfl, ?_⟩; have n0_ := Aside0.mk (blk_below (g := gb132) (o := .cells #[.int .i64 t130, .int .i64 t131] 26 (0, 0)) (by (with_reducible repeat (first | refine blk_drewN ?_ _ | refine blk_drew ?_ | refine blk_alloc ?_ _)); exact BK132.out) hb); have n1_ := Aside0.mk (below_step (by repeat (first | (with_reducible first | exact HB.out | apply below_alloc | apply pw_below_drewN | apply below_drew1 | refine below_set ?_ GE132.out) | exact HB.out)) hb); clear BK132; clear HB; have BK132 := n0_; have HB := n1_; clear n0_ n1_; (try clear hb); (try clear hb2); (try clear hk); (try clear hi); have hcz50_0 : w49.cell? ⟨gb132, 0, none⟩ = some (.int .i64 t130) := (blk_cell BK132.out 0).trans rfl; have hcz50_1 : w49.cell? ⟨gb132, 1, none⟩ = some (.int .i64 t131) := (blk_cell BK132.out 1).trans rfl; have hfz50_0 := blk_frozen BK132.out 0; have hfz50_1 := blk_frozen BK132.out 1))
                                    go_ret
                                    exact ⟨by first | rfl | (simp [errW_none, errW_some] <;> rfl) | (simp only [← hji3]; first | rfl | (simp [errW_none, errW_some] <;> rfl)) | (simp [*, errW_none, errW_some] <;> rfl), by repeat (first | (with_reducible first | exact HB.out | apply below_alloc | apply pw_below_drewN | apply below_drew1 | refine below_set ?_ GE132.out) | exact HB.out)⟩
                                  · rw [if_neg c48] at H
                                    have c48b0 : (a1 == 50) = false := beq_eq_false_iff_ne.mpr c48
                                    have c48b1 : (a1 != 50) = true := bne_iff_ne.mpr c48
                                    have cz0 : (t130 == 0) = false := by have e := c47b0; rw [c48b0] at e; simpa using e
                                    have cz1 : (t130 != 0) = true := by rw [bne, cz0]; rfl
                                    obtain rfl := Option.some.inj H
                                    go_wp2_with (first | ((with_reducible refine gate_callee (f := 7) rfl ?_); refine goesL_ (some 71) rfl rfl Try.func7 (by kernel_rfl) rfl #[] rfl (by (try simp only [List.map_toArray, List.map_cons, List.map_nil]); first | done | rfl | (simp only [List.length_drop, List.length_take]; rfl)) ?_; (with_reducible refine (amanuensislaw19_answers.calls kj25  true _ A45.out).mono ?_); rintro e w51 ⟨rfl, hb⟩; refine ⟨_, rfl, ?_⟩; have n0_ := Aside0.mk (blk_below (g := gb132) (o := .cells #[.int .i64 t130, .int .i64 t131] 26 (0, 0)) (by (with_reducible repeat (first | refine blk_drewN ?_ _ | refine blk_drew ?_ | refine blk_alloc ?_ _)); exact BK132.out) hb); have n1_ := Aside0.mk (below_step (by repeat (first | (with_reducible first | exact HB.out | apply below_alloc | apply pw_below_drewN | apply below_drew1 | refine below_set ?_ GE132.out) | exact HB.out)) hb); clear BK132; clear HB; have BK132 := n0_; have HB := n1_; clear n0_ n1_; (try clear hb); (try clear hb2); (try clear hk); (try clear hi); have hcz52_0 : w51.cell? ⟨gb132, 0, none⟩ = some (.int .i64 t130) := (blk_cell BK132.out 0).trans rfl; have hcz52_1 : w51.cell? ⟨gb132, 1, none⟩ = some (.int .i64 t131) := (blk_cell BK132.out 1).trans rfl; have hfz52_0 := blk_frozen BK132.out 0; have hfz52_1 := blk_frozen BK132.out 1))
                                    go_ret
                                    exact ⟨by first | rfl | (simp [errW_none, errW_some] <;> rfl) | (simp only [← hji3]; first | rfl | (simp [errW_none, errW_some] <;> rfl)) | (simp [*, errW_none, errW_some] <;> rfl), by repeat (first | (with_reducible first | exact HB.out | apply below_alloc | apply pw_below_drewN | apply below_drew1 | refine below_set ?_ GE132.out) | exact HB.out)⟩
                                · rw [if_neg c47] at H
                                  have c47b0 : ((t130 == 0) == (a1 == 50)) = false := by simpa using c47
                                  (try (have c47b1 : decide ((t130 == 0) = (a1 == 50)) = false := by simpa using c47))
                                  (try (have c47b2 : ((t130 == 0) == (a1 == 50)) = false := by simpa using c47))
                                  (try (have c47b3 : ¬ ((t130 == 0) = (a1 == 50)) := by simpa using c47))
                                  clear c47
                                  obtain rfl := Option.some.inj H
                                  go_wp2_with (first | ((with_reducible refine gate_callee (f := 7) rfl ?_); refine goesL_ (some 71) rfl rfl Try.func7 (by kernel_rfl) rfl #[] rfl (by (try simp only [List.map_toArray, List.map_cons, List.map_nil]); first | done | rfl | (simp only [List.length_drop, List.length_take]; rfl)) ?_; (with_reducible refine (amanuensislaw19_answers.calls kj25  true _ A45.out).mono ?_); rintro e w53 ⟨rfl, hb⟩; refine ⟨_, rfl, ?_⟩; have n0_ := Aside0.mk (blk_below (g := gb132) (o := .cells #[.int .i64 t130, .int .i64 t131] 26 (0, 0)) (by (with_reducible repeat (first | refine blk_drewN ?_ _ | refine blk_drew ?_ | refine blk_alloc ?_ _)); exact BK132.out) hb); have n1_ := Aside0.mk (below_step (by repeat (first | (with_reducible first | exact HB.out | apply below_alloc | apply pw_below_drewN | apply below_drew1 | refine below_set ?_ GE132.out) | exact HB.out)) hb); clear BK132; clear HB; have BK132 := n0_; have HB := n1_; clear n0_ n1_; (try clear hb); (try clear hb2); (try clear hk); (try clear hi); have hcz54_0 : w53.cell? ⟨gb132, 0, none⟩ = some (.int .i64 t130) := (blk_cell BK132.out 0).trans rfl; have hcz54_1 : w53.cell? ⟨gb132, 1, none⟩ = some (.int .i64 t131) := (blk_cell BK132.out 1).trans rfl; have hfz54_0 := blk_frozen BK132.out 0; have hfz54_1 := blk_frozen BK132.out 1))
                                  go_ret
                                  exact ⟨by first | rfl | (simp [errW_none, errW_some] <;> rfl) | (simp only [← hji3]; first | rfl | (simp [errW_none, errW_some] <;> rfl)) | (simp [*, errW_none, errW_some] <;> rfl), by repeat (first | (with_reducible first | exact HB.out | apply below_alloc | apply pw_below_drewN | apply below_drew1 | refine below_set ?_ GE132.out) | exact HB.out)⟩
                              · replace c46 := Bool.eq_false_iff.mpr c46
                                subst c46
                                have H1 : (some false) = some r := by rw [if_neg (show ¬ (false = true) by decide)] at H; exact H
                                clear H
                                have H := H1
                                clear H1
                                obtain rfl := Option.some.inj H
                                go_wp2_with (first | ((with_reducible refine gate_callee (f := 7) rfl ?_); refine goesL_ (some 71) rfl rfl Try.func7 (by kernel_rfl) rfl #[] rfl (by (try simp only [List.map_toArray, List.map_cons, List.map_nil]); first | done | rfl | (simp only [List.length_drop, List.length_take]; rfl)) ?_; (with_reducible refine (amanuensislaw19_answers.calls kj25  false _ A45.out).mono ?_); rintro e w55 ⟨rfl, hb⟩; refine ⟨_, rfl, ?_⟩; have n0_ := Aside0.mk (blk_below (g := gb132) (o := .cells #[.int .i64 t130, .int .i64 t131] 26 (0, 0)) (by (with_reducible repeat (first | refine blk_drewN ?_ _ | refine blk_drew ?_ | refine blk_alloc ?_ _)); exact BK132.out) hb); have n1_ := Aside0.mk (below_step (by repeat (first | (with_reducible first | exact HB.out | apply below_alloc | apply pw_below_drewN | apply below_drew1 | refine below_set ?_ GE132.out) | exact HB.out)) hb); clear BK132; clear HB; have BK132 := n0_; have HB := n1_; clear n0_ n1_; (try clear hb); (try clear hb2); (try clear hk); (try clear hi)))
                                go_ret
                                exact ⟨by first | rfl | (simp [errW_none, errW_some] <;> rfl) | (simp only [← hji3]; first | rfl | (simp [errW_none, errW_some] <;> rfl)) | (simp [*, errW_none, errW_some] <;> rfl), by repeat (first | (with_reducible first | exact HB.out | apply below_alloc | apply pw_below_drewN | apply below_drew1 | refine below_set ?_ GE132.out) | exact HB.out)⟩
                          · replace c28 := Bool.eq_false_iff.mpr c28
                            subst c28
                            have H1 : (if ji3 ≥ 20 then (if 0 ≤ (wrap64 (ji3 - 20)) then (if (wrap64 (ji3 - 20)) < 4 then ((amanuensislaw19_answers.f kj25).bind fun t135 => (if t135 = true then (if ((t130 == 0) == (a1 == (bt (⟨#[52, 53, 48, 48]⟩ : ByteArray) (wrap64 (ji3 - 20))))) = true then (if a1 = (bt (⟨#[52, 53, 48, 48]⟩ : ByteArray) (wrap64 (ji3 - 20))) then (some true) else (some (t130 == 10 && (t131 == ji3)))) else (some false)) else (some false))) else (none)) else (none)) else ((amanuensislaw19_answers.f kj25).bind fun t136 => (if t136 = true then (if ((t130 == 0) == x10_22) = true then (if x10_22 = true then (some true) else (some (t130 == 10 && (t131 == ji3)))) else (some false)) else (some false)))) = some r := by rw [if_neg (show ¬ (false = true) by decide)] at H; exact H
                            clear H
                            have H := H1
                            clear H1
                            by_cases c56 : ji3 ≥ 20
                            · rw [if_pos c56] at H
                              have c56b0 : decide (20 ≤ ji3) = true := decide_eq_true c56
                              clear c56
                              obtain ⟨ji57, hji57⟩ : ∃ j_ : Int, (wrap64 (ji3 - 20)) = j_ := ⟨_, rfl⟩
                              replace H : (if 0 ≤ (ji57) then (if (ji57) < 4 then ((amanuensislaw19_answers.f kj25).bind fun t135 => (if t135 = true then (if ((t130 == 0) == (a1 == (bt (⟨#[52, 53, 48, 48]⟩ : ByteArray) (ji57)))) = true then (if a1 = (bt (⟨#[52, 53, 48, 48]⟩ : ByteArray) (ji57)) then (some true) else (some (t130 == 10 && (t131 == ji3)))) else (some false)) else (some false))) else (none)) else (none)) = some r := by first | (rw [hji57] at H; exact H) | (simp only [hji57] at H ⊢; exact H)
                              have hji57w : (IntKind.i64.wrap (ji3 - 20)) = ji57 := (i64_w _).trans hji57
                              by_cases c58 : 0 ≤ (ji57)
                              · rw [if_pos c58] at H
                                have c58b0 : decide (0 ≤ (ji57)) = true := decide_eq_true c58
                                clear c58
                                by_cases c59 : (ji57) < 4
                                · rw [if_pos c59] at H
                                  have c59b0 : decide ((ji57) < 4) = true := decide_eq_true c59
                                  clear c59
                                  replace H := Option.bind_eq_some_iff.mp H
                                  obtain ⟨t135, A610, H⟩ := H
                                  replace H : (if t135 = true then (if ((t130 == 0) == (a1 == (bt (⟨#[52, 53, 48, 48]⟩ : ByteArray) (ji57)))) = true then (if a1 = (bt (⟨#[52, 53, 48, 48]⟩ : ByteArray) (ji57)) then (some true) else (some (t130 == 10 && (t131 == ji3)))) else (some false)) else (some false)) = some r := H
                                  have A61 := Aside0.mk A610
                                  clear A610
                                  by_cases c62 : t135 = true
                                  · subst c62
                                    have H1 : (if ((t130 == 0) == (a1 == (bt (⟨#[52, 53, 48, 48]⟩ : ByteArray) (ji57)))) = true then (if a1 = (bt (⟨#[52, 53, 48, 48]⟩ : ByteArray) (ji57)) then (some true) else (some (t130 == 10 && (t131 == ji3)))) else (some false)) = some r := by rw [if_pos rfl] at H; exact H
                                    clear H
                                    have H := H1
                                    clear H1
                                    by_cases c63 : ((t130 == 0) == (a1 == (bt (⟨#[52, 53, 48, 48]⟩ : ByteArray) (ji57)))) = true
                                    · rw [if_pos c63] at H
                                      have c63b0 : ((t130 == 0) == (a1 == (bt (⟨#[52, 53, 48, 48]⟩ : ByteArray) (ji57)))) = true := c63
                                      (try (have c63b1 : decide ((t130 == 0) = (a1 == (bt (⟨#[52, 53, 48, 48]⟩ : ByteArray) (ji57)))) = true := by simpa using c63))
                                      (try (have c63b2 : ((t130 == 0) == (a1 == (bt (⟨#[52, 53, 48, 48]⟩ : ByteArray) (ji57)))) = true := by simpa using c63))
                                      clear c63
                                      by_cases c64 : a1 = (bt (⟨#[52, 53, 48, 48]⟩ : ByteArray) (ji57))
                                      · rw [if_pos c64] at H
                                        have c64b0 : (a1 == (bt (⟨#[52, 53, 48, 48]⟩ : ByteArray) (ji57))) = true := beq_iff_eq.mpr c64
                                        have c64b1 : (a1 != (bt (⟨#[52, 53, 48, 48]⟩ : ByteArray) (ji57))) = false := bne_eq_false_iff_eq.mpr c64
                                        have cz0 : (t130 == 0) = true := by have e := c63b0; rw [c64b0] at e; simpa using e
                                        have cz1 : (t130 != 0) = false := by rw [bne, cz0]; rfl
                                        clear c64
                                        obtain rfl := Option.some.inj H
                                        have p60 : 0 ≤ ((ji57) : Int) := of_decide_eq_true (by first | (with_reducible assumption) | assumption)
                                        have q60 : (ji57) < (4 : Int) := of_decide_eq_true (by first | (with_reducible assumption) | assumption)
                                        have hx60 := bt_at (⟨#[52, 53, 48, 48]⟩ : ByteArray) (ji57)
                                        replace p60 := eq_true p60
                                        replace q60 := eq_true q60
                                        go_wp2_with (first | ((with_reducible refine gate_callee (f := 7) rfl ?_); refine goesL_ (some 71) rfl rfl Try.func7 (by kernel_rfl) rfl #[] rfl (by (try simp only [List.map_toArray, List.map_cons, List.map_nil]); first | done | rfl | (simp only [List.length_drop, List.length_take]; rfl)) ?_; (with_reducible refine (amanuensislaw19_answers.calls kj25  true _ A61.out).mono ?_); rintro e w65 ⟨rfl, hb⟩; refine ⟨_, rfl, ?_⟩; have n0_ := Aside0.mk (blk_below (g := gb132) (o := .cells #[.int .i64 t130, .int .i64 t131] 26 (0, 0)) (by (with_reducible repeat (first | refine blk_drewN ?_ _ | refine blk_drew ?_ | refine blk_alloc ?_ _)); exact BK132.out) hb); have n1_ := Aside0.mk (below_step (by repeat (first | (with_reducible first | exact HB.out | apply below_alloc | apply pw_below_drewN | apply below_drew1 | refine below_set ?_ GE132.out) | exact HB.out)) hb); clear BK132; clear HB; have BK132 := n0_; have HB := n1_; clear n0_ n1_; (try clear hb); (try clear hb2); (try clear hk); (try clear hi); have hcz66_0 : w65.cell? ⟨gb132, 0, none⟩ = some (.int .i64 t130) := (blk_cell BK132.out 0).trans rfl; have hcz66_1 : w65.cell? ⟨gb132, 1, none⟩ = some (.int .i64 t131) := (blk_cell BK132.out 1).trans rfl; have hfz66_0 := blk_frozen BK132.out 0; have hfz66_1 := blk_frozen BK132.out 1))
                                        go_ret
                                        exact ⟨by first | rfl | (simp [errW_none, errW_some] <;> rfl) | (simp only [← hji3, ← hji57]; first | rfl | (simp [errW_none, errW_some] <;> rfl)) | (simp [*, errW_none, errW_some] <;> rfl), by repeat (first | (with_reducible first | exact HB.out | apply below_alloc | apply pw_below_drewN | apply below_drew1 | refine below_set ?_ GE132.out) | exact HB.out)⟩
                                      · rw [if_neg c64] at H
                                        have c64b0 : (a1 == (bt (⟨#[52, 53, 48, 48]⟩ : ByteArray) (ji57))) = false := beq_eq_false_iff_ne.mpr c64
                                        have c64b1 : (a1 != (bt (⟨#[52, 53, 48, 48]⟩ : ByteArray) (ji57))) = true := bne_iff_ne.mpr c64
                                        have cz0 : (t130 == 0) = false := by have e := c63b0; rw [c64b0] at e; simpa using e
                                        have cz1 : (t130 != 0) = true := by rw [bne, cz0]; rfl
                                        obtain rfl := Option.some.inj H
                                        have p60 : 0 ≤ ((ji57) : Int) := of_decide_eq_true (by first | (with_reducible assumption) | assumption)
                                        have q60 : (ji57) < (4 : Int) := of_decide_eq_true (by first | (with_reducible assumption) | assumption)
                                        have hx60 := bt_at (⟨#[52, 53, 48, 48]⟩ : ByteArray) (ji57)
                                        replace p60 := eq_true p60
                                        replace q60 := eq_true q60
                                        go_wp2_with (first | ((with_reducible refine gate_callee (f := 7) rfl ?_); refine goesL_ (some 71) rfl rfl Try.func7 (by kernel_rfl) rfl #[] rfl (by (try simp only [List.map_toArray, List.map_cons, List.map_nil]); first | done | rfl | (simp only [List.length_drop, List.length_take]; rfl)) ?_; (with_reducible refine (amanuensislaw19_answers.calls kj25  true _ A61.out).mono ?_); rintro e w67 ⟨rfl, hb⟩; refine ⟨_, rfl, ?_⟩; have n0_ := Aside0.mk (blk_below (g := gb132) (o := .cells #[.int .i64 t130, .int .i64 t131] 26 (0, 0)) (by (with_reducible repeat (first | refine blk_drewN ?_ _ | refine blk_drew ?_ | refine blk_alloc ?_ _)); exact BK132.out) hb); have n1_ := Aside0.mk (below_step (by repeat (first | (with_reducible first | exact HB.out | apply below_alloc | apply pw_below_drewN | apply below_drew1 | refine below_set ?_ GE132.out) | exact HB.out)) hb); clear BK132; clear HB; have BK132 := n0_; have HB := n1_; clear n0_ n1_; (try clear hb); (try clear hb2); (try clear hk); (try clear hi); have hcz68_0 : w67.cell? ⟨gb132, 0, none⟩ = some (.int .i64 t130) := (blk_cell BK132.out 0).trans rfl; have hcz68_1 : w67.cell? ⟨gb132, 1, none⟩ = some (.int .i64 t131) := (blk_cell BK132.out 1).trans rfl; have hfz68_0 := blk_frozen BK132.out 0; have hfz68_1 := blk_frozen BK132.out 1))
                                        go_ret
                                        exact ⟨by first | rfl | (simp [errW_none, errW_some] <;> rfl) | (simp only [← hji3, ← hji57]; first | rfl | (simp [errW_none, errW_some] <;> rfl)) | (simp [*, errW_none, errW_some] <;> rfl), by repeat (first | (with_reducible first | exact HB.out | apply below_alloc | apply pw_below_drewN | apply below_drew1 | refine below_set ?_ GE132.out) | exact HB.out)⟩
                                    · rw [if_neg c63] at H
                                      have c63b0 : ((t130 == 0) == (a1 == (bt (⟨#[52, 53, 48, 48]⟩ : ByteArray) (ji57)))) = false := by simpa using c63
                                      (try (have c63b1 : decide ((t130 == 0) = (a1 == (bt (⟨#[52, 53, 48, 48]⟩ : ByteArray) (ji57)))) = false := by simpa using c63))
                                      (try (have c63b2 : ((t130 == 0) == (a1 == (bt (⟨#[52, 53, 48, 48]⟩ : ByteArray) (ji57)))) = false := by simpa using c63))
                                      (try (have c63b3 : ¬ ((t130 == 0) = (a1 == (bt (⟨#[52, 53, 48, 48]⟩ : ByteArray) (ji57)))) := by simpa using c63))
                                      clear c63
                                      obtain rfl := Option.some.inj H
                                      have p60 : 0 ≤ ((ji57) : Int) := of_decide_eq_true (by first | (with_reducible assumption) | assumption)
                                      have q60 : (ji57) < (4 : Int) := of_decide_eq_true (by first | (with_reducible assumption) | assumption)
                                      have hx60 := bt_at (⟨#[52, 53, 48, 48]⟩ : ByteArray) (ji57)
                                      replace p60 := eq_true p60
                                      replace q60 := eq_true q60
                                      go_wp2_with (first | ((with_reducible refine gate_callee (f := 7) rfl ?_); refine goesL_ (some 71) rfl rfl Try.func7 (by kernel_rfl) rfl #[] rfl (by (try simp only [List.map_toArray, List.map_cons, List.map_nil]); first | done | rfl | (simp only [List.length_drop, List.length_take]; rfl)) ?_; (with_reducible refine (amanuensislaw19_answers.calls kj25  true _ A61.out).mono ?_); rintro e w69 ⟨rfl, hb⟩; refine ⟨_, rfl, ?_⟩; have n0_ := Aside0.mk (blk_below (g := gb132) (o := .cells #[.int .i64 t130, .int .i64 t131] 26 (0, 0)) (by (with_reducible repeat (first | refine blk_drewN ?_ _ | refine blk_drew ?_ | refine blk_alloc ?_ _)); exact BK132.out) hb); have n1_ := Aside0.mk (below_step (by repeat (first | (with_reducible first | exact HB.out | apply below_alloc | apply pw_below_drewN | apply below_drew1 | refine below_set ?_ GE132.out) | exact HB.out)) hb); clear BK132; clear HB; have BK132 := n0_; have HB := n1_; clear n0_ n1_; (try clear hb); (try clear hb2); (try clear hk); (try clear hi); have hcz70_0 : w69.cell? ⟨gb132, 0, none⟩ = some (.int .i64 t130) := (blk_cell BK132.out 0).trans rfl; have hcz70_1 : w69.cell? ⟨gb132, 1, none⟩ = some (.int .i64 t131) := (blk_cell BK132.out 1).trans rfl; have hfz70_0 := blk_frozen BK132.out 0; have hfz70_1 := blk_frozen BK132.out 1))
                                      go_ret
                                      exact ⟨by first | rfl | (simp [errW_none, errW_some] <;> rfl) | (simp only [← hji3, ← hji57]; first | rfl | (simp [errW_none, errW_some] <;> rfl)) | (simp [*, errW_none, errW_some] <;> rfl), by repeat (first | (with_reducible first | exact HB.out | apply below_alloc | apply pw_below_drewN | apply below_drew1 | refine below_set ?_ GE132.out) | exact HB.out)⟩
                                  · replace c62 := Bool.eq_false_iff.mpr c62
                                    subst c62
                                    have H1 : (some false) = some r := by rw [if_neg (show ¬ (false = true) by decide)] at H; exact H
                                    clear H
                                    have H := H1
                                    clear H1
                                    obtain rfl := Option.some.inj H
                                    have p60 : 0 ≤ ((ji57) : Int) := of_decide_eq_true (by first | (with_reducible assumption) | assumption)
                                    have q60 : (ji57) < (4 : Int) := of_decide_eq_true (by first | (with_reducible assumption) | assumption)
                                    have hx60 := bt_at (⟨#[52, 53, 48, 48]⟩ : ByteArray) (ji57)
                                    replace p60 := eq_true p60
                                    replace q60 := eq_true q60
                                    go_wp2_with (first | ((with_reducible refine gate_callee (f := 7) rfl ?_); refine goesL_ (some 71) rfl rfl Try.func7 (by kernel_rfl) rfl #[] rfl (by (try simp only [List.map_toArray, List.map_cons, List.map_nil]); first | done | rfl | (simp only [List.length_drop, List.length_take]; rfl)) ?_; (with_reducible refine (amanuensislaw19_answers.calls kj25  false _ A61.out).mono ?_); rintro e w71 ⟨rfl, hb⟩; refine ⟨_, rfl, ?_⟩; have n0_ := Aside0.mk (blk_below (g := gb132) (o := .cells #[.int .i64 t130, .int .i64 t131] 26 (0, 0)) (by (with_reducible repeat (first | refine blk_drewN ?_ _ | refine blk_drew ?_ | refine blk_alloc ?_ _)); exact BK132.out) hb); have n1_ := Aside0.mk (below_step (by repeat (first | (with_reducible first | exact HB.out | apply below_alloc | apply pw_below_drewN | apply below_drew1 | refine below_set ?_ GE132.out) | exact HB.out)) hb); clear BK132; clear HB; have BK132 := n0_; have HB := n1_; clear n0_ n1_; (try clear hb); (try clear hb2); (try clear hk); (try clear hi)))
                                    go_ret
                                    exact ⟨by first | rfl | (simp [errW_none, errW_some] <;> rfl) | (simp only [← hji3, ← hji57]; first | rfl | (simp [errW_none, errW_some] <;> rfl)) | (simp [*, errW_none, errW_some] <;> rfl), by repeat (first | (with_reducible first | exact HB.out | apply below_alloc | apply pw_below_drewN | apply below_drew1 | refine below_set ?_ GE132.out) | exact HB.out)⟩
                                · rw [if_neg c59] at H
                                  exact absurd H (by simp)
                              · rw [if_neg c58] at H
                                exact absurd H (by simp)
                            · rw [if_neg c56] at H
                              have c56b0 : decide (20 ≤ ji3) = false := decide_eq_false c56
                              clear c56
                              replace H := Option.bind_eq_some_iff.mp H
                              obtain ⟨t136, A720, H⟩ := H
                              replace H : (if t136 = true then (if ((t130 == 0) == x10_22) = true then (if x10_22 = true then (some true) else (some (t130 == 10 && (t131 == ji3)))) else (some false)) else (some false)) = some r := H
                              have A72 := Aside0.mk A720
                              clear A720
                              by_cases c73 : t136 = true
                              · subst c73
                                have H1 : (if ((t130 == 0) == x10_22) = true then (if x10_22 = true then (some true) else (some (t130 == 10 && (t131 == ji3)))) else (some false)) = some r := by rw [if_pos rfl] at H; exact H
                                clear H
                                have H := H1
                                clear H1
                                by_cases c74 : ((t130 == 0) == x10_22) = true
                                · rw [if_pos c74] at H
                                  have c74b0 : ((t130 == 0) == x10_22) = true := c74
                                  (try (have c74b1 : decide ((t130 == 0) = x10_22) = true := by simpa using c74))
                                  (try (have c74b2 : ((t130 == 0) == x10_22) = true := by simpa using c74))
                                  clear c74
                                  by_cases c75 : x10_22 = true
                                  · subst c75
                                    have H1 : (some true) = some r := by rw [if_pos rfl] at H; exact H
                                    clear H
                                    have H := H1
                                    clear H1
                                    obtain rfl := Option.some.inj H
                                    go_wp2_with (first | ((with_reducible refine gate_callee (f := 7) rfl ?_); refine goesL_ (some 71) rfl rfl Try.func7 (by kernel_rfl) rfl #[] rfl (by (try simp only [List.map_toArray, List.map_cons, List.map_nil]); first | done | rfl | (simp only [List.length_drop, List.length_take]; rfl)) ?_; (with_reducible refine (amanuensislaw19_answers.calls kj25  true _ A72.out).mono ?_); rintro e w76 ⟨rfl, hb⟩; refine ⟨_, rfl, ?_⟩; have n0_ := Aside0.mk (blk_below (g := gb132) (o := .cells #[.int .i64 t130, .int .i64 t131] 26 (0, 0)) (by (with_reducible repeat (first | refine blk_drewN ?_ _ | refine blk_drew ?_ | refine blk_alloc ?_ _)); exact BK132.out) hb); have n1_ := Aside0.mk (below_step (by repeat (first | (with_reducible first | exact HB.out | apply below_alloc | apply pw_below_drewN | apply below_drew1 | refine below_set ?_ GE132.out) | exact HB.out)) hb); clear BK132; clear HB; have BK132 := n0_; have HB := n1_; clear n0_ n1_; (try clear hb); (try clear hb2); (try clear hk); (try clear hi); have hcz77_0 : w76.cell? ⟨gb132, 0, none⟩ = some (.int .i64 t130) := (blk_cell BK132.out 0).trans rfl; have hcz77_1 : w76.cell? ⟨gb132, 1, none⟩ = some (.int .i64 t131) := (blk_cell BK132.out 1).trans rfl; have hfz77_0 := blk_frozen BK132.out 0; have hfz77_1 := blk_frozen BK132.out 1))
                                    go_ret
                                    exact ⟨by first | rfl | (simp [errW_none, errW_some] <;> rfl) | (simp only [← hji3]; first | rfl | (simp [errW_none, errW_some] <;> rfl)) | (simp [*, errW_none, errW_some] <;> rfl), by repeat (first | (with_reducible first | exact HB.out | apply below_alloc | apply pw_below_drewN | apply below_drew1 | refine below_set ?_ GE132.out) | exact HB.out)⟩
                                  · replace c75 := Bool.eq_false_iff.mpr c75
                                    subst c75
                                    have H1 : (some (t130 == 10 && (t131 == ji3))) = some r := by rw [if_neg (show ¬ (false = true) by decide)] at H; exact H
                                    clear H
                                    have H := H1
                                    clear H1
                                    obtain rfl := Option.some.inj H
                                    go_wp2_with (first | ((with_reducible refine gate_callee (f := 7) rfl ?_); refine goesL_ (some 71) rfl rfl Try.func7 (by kernel_rfl) rfl #[] rfl (by (try simp only [List.map_toArray, List.map_cons, List.map_nil]); first | done | rfl | (simp only [List.length_drop, List.length_take]; rfl)) ?_; (with_reducible refine (amanuensislaw19_answers.calls kj25  true _ A72.out).mono ?_); rintro e w78 ⟨rfl, hb⟩; refine ⟨_, rfl, ?_⟩; have n0_ := Aside0.mk (blk_below (g := gb132) (o := .cells #[.int .i64 t130, .int .i64 t131] 26 (0, 0)) (by (with_reducible repeat (first | refine blk_drewN ?_ _ | refine blk_drew ?_ | refine blk_alloc ?_ _)); exact BK132.out) hb); have n1_ := Aside0.mk (below_step (by repeat (first | (with_reducible first | exact HB.out | apply below_alloc | apply pw_below_drewN | apply below_drew1 | refine below_set ?_ GE132.out) | exact HB.out)) hb); clear BK132; clear HB; have BK132 := n0_; have HB := n1_; clear n0_ n1_; (try clear hb); (try clear hb2); (try clear hk); (try clear hi); have hcz79_0 : w78.cell? ⟨gb132, 0, none⟩ = some (.int .i64 t130) := (blk_cell BK132.out 0).trans rfl; have hcz79_1 : w78.cell? ⟨gb132, 1, none⟩ = some (.int .i64 t131) := (blk_cell BK132.out 1).trans rfl; have hfz79_0 := blk_frozen BK132.out 0; have hfz79_1 := blk_frozen BK132.out 1))
                                    go_ret
                                    exact ⟨by first | rfl | (simp [errW_none, errW_some] <;> rfl) | (simp only [← hji3]; first | rfl | (simp [errW_none, errW_some] <;> rfl)) | (simp [*, errW_none, errW_some] <;> rfl), by repeat (first | (with_reducible first | exact HB.out | apply below_alloc | apply pw_below_drewN | apply below_drew1 | refine below_set ?_ GE132.out) | exact HB.out)⟩
                                · rw [if_neg c74] at H
                                  have c74b0 : ((t130 == 0) == x10_22) = false := by simpa using c74
                                  (try (have c74b1 : decide ((t130 == 0) = x10_22) = false := by simpa using c74))
                                  (try (have c74b2 : ((t130 == 0) == x10_22) = false := by simpa using c74))
                                  (try (have c74b3 : ¬ ((t130 == 0) = x10_22) := by simpa using c74))
                                  clear c74
                                  obtain rfl := Option.some.inj H
                                  go_wp2_with (first | ((with_reducible refine gate_callee (f := 7) rfl ?_); refine goesL_ (some 71) rfl rfl Try.func7 (by kernel_rfl) rfl #[] rfl (by (try simp only [List.map_toArray, List.map_cons, List.map_nil]); first | done | rfl | (simp only [List.length_drop, List.length_take]; rfl)) ?_; (with_reducible refine (amanuensislaw19_answers.calls kj25  true _ A72.out).mono ?_); rintro e w80 ⟨rfl, hb⟩; refine ⟨_, rfl, ?_⟩; have n0_ := Aside0.mk (blk_below (g := gb132) (o := .cells #[.int .i64 t130, .int .i64 t131] 26 (0, 0)) (by (with_reducible repeat (first | refine blk_drewN ?_ _ | refine blk_drew ?_ | refine blk_alloc ?_ _)); exact BK132.out) hb); have n1_ := Aside0.mk (below_step (by repeat (first | (with_reducible first | exact HB.out | apply below_alloc | apply pw_below_drewN | apply below_drew1 | refine below_set ?_ GE132.out) | exact HB.out)) hb); clear BK132; clear HB; have BK132 := n0_; have HB := n1_; clear n0_ n1_; (try clear hb); (try clear hb2); (try clear hk); (try clear hi); have hcz81_0 : w80.cell? ⟨gb132, 0, none⟩ = some (.int .i64 t130) := (blk_cell BK132.out 0).trans rfl; have hcz81_1 : w80.cell? ⟨gb132, 1, none⟩ = some (.int .i64 t131) := (blk_cell BK132.out 1).trans rfl; have hfz81_0 := blk_frozen BK132.out 0; have hfz81_1 := blk_frozen BK132.out 1))
                                  go_ret
                                  exact ⟨by first | rfl | (simp [errW_none, errW_some] <;> rfl) | (simp only [← hji3]; first | rfl | (simp [errW_none, errW_some] <;> rfl)) | (simp [*, errW_none, errW_some] <;> rfl), by repeat (first | (with_reducible first | exact HB.out | apply below_alloc | apply pw_below_drewN | apply below_drew1 | refine below_set ?_ GE132.out) | exact HB.out)⟩
                              · replace c73 := Bool.eq_false_iff.mpr c73
                                subst c73
                                have H1 : (some false) = some r := by rw [if_neg (show ¬ (false = true) by decide)] at H; exact H
                                clear H
                                have H := H1
                                clear H1
                                obtain rfl := Option.some.inj H
                                go_wp2_with (first | ((with_reducible refine gate_callee (f := 7) rfl ?_); refine goesL_ (some 71) rfl rfl Try.func7 (by kernel_rfl) rfl #[] rfl (by (try simp only [List.map_toArray, List.map_cons, List.map_nil]); first | done | rfl | (simp only [List.length_drop, List.length_take]; rfl)) ?_; (with_reducible refine (amanuensislaw19_answers.calls kj25  false _ A72.out).mono ?_); rintro e w82 ⟨rfl, hb⟩; refine ⟨_, rfl, ?_⟩; have n0_ := Aside0.mk (blk_below (g := gb132) (o := .cells #[.int .i64 t130, .int .i64 t131] 26 (0, 0)) (by (with_reducible repeat (first | refine blk_drewN ?_ _ | refine blk_drew ?_ | refine blk_alloc ?_ _)); exact BK132.out) hb); have n1_ := Aside0.mk (below_step (by repeat (first | (with_reducible first | exact HB.out | apply below_alloc | apply pw_below_drewN | apply below_drew1 | refine below_set ?_ GE132.out) | exact HB.out)) hb); clear BK132; clear HB; have BK132 := n0_; have HB := n1_; clear n0_ n1_; (try clear hb); (try clear hb2); (try clear hk); (try clear hi)))
                                go_ret
                                exact ⟨by first | rfl | (simp [errW_none, errW_some] <;> rfl) | (simp only [← hji3]; first | rfl | (simp [errW_none, errW_some] <;> rfl)) | (simp [*, errW_none, errW_some] <;> rfl), by repeat (first | (with_reducible first | exact HB.out | apply below_alloc | apply pw_below_drewN | apply below_drew1 | refine below_set ?_ GE132.out) | exact HB.out)⟩
    · rw [if_neg c5] at H
      exact absurd H (by simp)
  · rw [if_neg c4] at H
    exact absurd H (by simp)

/-- THE ONE PURE STATEMENT of amanuensislaw19_LeaderPlaces: yours. -/
def amanuensislaw19_LeaderPlaces.Pure : Prop := ∀ (a0 : Int) (a1 : Int), (Lit.int .u8 a0).wf = true → (Lit.int .u8 a1).wf = true → ∃ k, amanuensislaw19_LeaderPlaces.f k a0 a1 = some true
theorem amanuensislaw19_LeaderPlaces.walk (P : amanuensislaw19_LeaderPlaces.Pure) (a0 : Int) (a1 : Int) (w : World) (w0 : (Lit.int .u8 a0).wf = true) (w1 : (Lit.int .u8 a1).wf = true) :
    Calls Try.prog 4 #[.int .u8 a0, .int .u8 a1] w fun e w' => e = .returned (.bool true) ∧ Below w.heap.size w w' := by
  obtain ⟨k, h⟩ := P a0 a1 w0 w1
  refine (amanuensislaw19_LeaderPlaces.calls k a0 a1 true w h).mono ?_
  rintro e w' ⟨rfl, hd⟩
  exact ⟨rfl, hd⟩

end Go.Proofs.Ytopdomaogmmklaa.PLeaderPlaces
