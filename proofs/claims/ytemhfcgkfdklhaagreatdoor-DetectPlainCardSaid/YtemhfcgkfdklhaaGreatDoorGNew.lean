/- glyph.New: the index of all codes. -/
import Derived.Carry
import Derived.Test.YtemhfcgkfdklhaaGreatDoorScr
import Derived.Test.YtemhfcgkfdklhaaGreatDoorEaccE
import Derived.Test.YtemhfcgkfdklhaaGreatDoorSmall
import Derived.Test.YtemhfcgkfdklhaaGreatDoorGStep
set_option linter.unusedVariables false
namespace Go.Proofs.YtemhfcgkfdklhaaGreatDoor.Look
open Go Go.RowKit Go.Shelf Go.Proofs Go.Proofs.YtemhfcgkfdklhaaGreatDoor.Idx Go.MapKept

def ofSet (set : Int) (l : List (Int × Int)) : Adds := l.map fun x => (set, x.1, x.2)
def smallOne (set : Int) (i : Nat) : Adds := if (smallR set (33 + (i : Int))).2 then [(set, 33 + (i : Int), (smallR set (33 + (i : Int))).1)] else []
def smallTo (set : Int) (n : Nat) : Adds := (List.range n).flatMap (smallOne set)
def setsL : List Int := [1, 10, 11, 12]
def scrTo (n : Nat) : Adds := (List.range n).flatMap fun m : Nat => ofSet (3 + (m : Int)) (eachT (scrT m))
def smallSets (n : Nat) : Adds := (List.range n).flatMap fun j : Nat => smallTo (setsL.getD j 0) 94
/-- All that glyph.New adds. -/
def allAdds : Adds := ofSet 2 (eachT anselT) ++ ofSet 9 eaccL ++ scrTo 6 ++ smallSets 4
theorem smallTo_succ (set : Int) (n : Nat) : smallTo set (n + 1) = smallTo set n ++ smallOne set n := by simp [smallTo, List.range_succ]
theorem scrTo_succ (n : Nat) : scrTo (n + 1) = scrTo n ++ ofSet (3 + (n : Int)) (eachT (scrT n)) := by simp [scrTo, List.range_succ]
theorem smallSets_succ (n : Nat) : smallSets (n + 1) = smallSets n ++ smallTo (setsL.getD n 0) 94 := by simp [smallSets, List.range_succ]
theorem ofSet_len (set : Int) (l : List (Int × Int)) : (ofSet set l).length = l.length := by simp [ofSet]
theorem smallTo_len (set : Int) : ∀ n, (smallTo set n).length ≤ n
  | 0 => by simp [smallTo]
  | n + 1 => by
    have := smallTo_len set n
    rw [smallTo_succ, List.length_append]
    have h2 : (smallOne set n).length ≤ 1 := by unfold smallOne; split <;> simp
    omega
theorem scrTo_len : ∀ n, (scrTo n).length ≤ 100 * n
  | 0 => by simp [scrTo]
  | n + 1 => by
    have := scrTo_len n
    have h2 := scr_len n
    rw [scrTo_succ, List.length_append, ofSet_len]
    omega
theorem smallSets_len : ∀ n, (smallSets n).length ≤ 94 * n
  | 0 => by simp [smallSets]
  | n + 1 => by
    have := smallSets_len n
    have h2 := smallTo_len (setsL.getD n 0) 94
    rw [smallSets_succ, List.length_append]
    omega

/-- While New goes on: the index stands at its place, behind the adds A. -/
structure GI (w W : World) (A : Adds) : Prop where
  ex : ∃ O, Idx W (w.heap.size + 2) w.heap.size (w.heap.size + 1) (w.heap.size + 4) A O ∧ ¬ Idx.Own (w.heap.size + 2) w.heap.size (w.heap.size + 1) O (w.heap.size + 3)
  px : W.cell? ⟨w.heap.size + 3, 0, none⟩ = some (.pointer (some ⟨w.heap.size + 2, 0, none⟩))
  below : Below w.heap.size w W
theorem GI.go {w W W' : World} {A : Adds} (h : GI w W A) (hb : Below W.heap.size W W') : GI w W' A := by
  obtain ⟨⟨O, hI, hn⟩, hp, hbw⟩ := h
  exact ⟨⟨O, hI.kept hb.size fun k hk => hb.block k (hI.lt k hk), hn⟩, (hb.cell (World.block_lt_of_cell? W ⟨_, 0, none⟩ hp)).trans hp, hbw.trans (hb.mono hbw.size)⟩
/-- The closure of one set has been made: what it owns. -/
def OP (w : World) (cs : Nat) (O : Nat → Prop) (k : Nat) : Prop := Idx.Own (w.heap.size + 2) w.heap.size (w.heap.size + 1) O k ∨ k = w.heap.size + 3 ∨ k = cs
abbrev JG (w : World) (cs : Nat) (A : Adds) (set : Int) := JI (w.heap.size + 3) cs (w.heap.size + 2) w.heap.size (w.heap.size + 1) (w.heap.size + 4) A set
theorem GI.inset {w W : World} {A : Adds} (h : GI w W A) (set : Int) : ∃ P, JG w W.heap.size A set (W.alloc (.cells #[.int .i64 set] 3)) [] P ∧ (∀ k, P k → w.heap.size ≤ k) ∧ Below w.heap.size w (W.alloc (.cells #[.int .i64 set] 3)) := by
  have h2 := h.go ((Below.refl _ W).alloc (Nat.le_refl _) (.cells #[.int .i64 set] 3))
  obtain ⟨⟨O, hI, hn⟩, hp, hbw⟩ := h
  obtain ⟨⟨O2, hI2, hn2⟩, hp2, hbw2⟩ := h2
  have hI3 : Idx (W.alloc (.cells #[.int .i64 set] 3)) (w.heap.size + 2) w.heap.size (w.heap.size + 1) (w.heap.size + 4) A O := hI.kept (by simp) fun k hk => (World.grownBy_alloc W _ none).block k (hI.lt k hk) (by simp)
  have hsz := hbw.size
  refine ⟨OP w W.heap.size O, ⟨O, by simpa using hI3, hp2, (Boxed.new W 3 (.int .i64 set)).cell, hn, fun hc => Nat.lt_irrefl _ (hI.lt _ hc), fun k => Iff.rfl⟩, fun k hk => ?_, hbw2⟩
  rcases hk with hk | rfl | rfl
  · rcases hk with rfl | rfl | rfl | hk
    · omega
    · omega
    · omega
    · have := hI.o k hk; omega
  · omega
  · exact hsz
theorem GI.each {w W : World} {A : Adds} (h : GI w W A) {set : Int} {add : List (Int × Int)} {cs : Nat} {P : Nat → Prop} {W' w' : World} {e : Ending} (hP : ∀ k, P k → w.heap.size ≤ k) (hb : Below w.heap.size w W') (hE : EachOk (JG w cs A set) [] add P W' e w') : e = .returned (.tuple #[]) ∧ GI w w' (A ++ ofSet set add) := by
  obtain ⟨rfl, hf, O, ⟨O2, hI, hp, hc, np, nc, hO⟩, _⟩ := hE
  exact ⟨rfl, ⟨O2, by simpa [ofSet] using hI, np⟩, hp, hb.trans (hf.below hb.size hP)⟩
/-- One call of a set's closure. -/
theorem GI.one {w W : World} {A : Adds} (h : GI w W A) (hA : A.length ≤ 1000000) (set n r : Int) (hset : W64 set) (hn : 0 ≤ n ∧ n ≤ 16777215) (hr : -2147483648 ≤ r ∧ r ≤ 2147483647) :
    Calls Tryz.prog 40 #[.int .i64 n, .int .i32 r, .pointer (some ⟨w.heap.size + 3, 0, none⟩), .pointer (some ⟨W.heap.size, 0, none⟩)] (W.alloc (.cells #[.int .i64 set] 3)) fun e w' => e = .returned (.tuple #[]) ∧ GI w w' (A ++ [(set, n, r)]) := by
  obtain ⟨P, hJ, hP, hb⟩ := h.inset set
  refine ((steps (w.heap.size + 3) W.heap.size (w.heap.size + 2) w.heap.size (w.heap.size + 1) (w.heap.size + 4) A set hset hA).step n r hJ (by simp) hr.1 hr.2 hn.1 hn.2).mono ?_
  rintro e w' ⟨rfl, hf, O, ⟨O2, hI, hp, hc, np, nc, hO⟩, _⟩
  exact ⟨rfl, ⟨O2, by simpa using hI, np⟩, hp, hb.trans (hf.below hb.size hP)⟩

def FV (px cs : Nat) : Value := .func (.func 40) #[] #[.pointer (some ⟨px, 0, none⟩), .pointer (some ⟨cs, 0, none⟩)]
theorem w64_small {x : Int} (h : 0 ≤ x ∧ x ≤ 100) : W64 x := ⟨by omega, by omega⟩
theorem cAnsel {w W : World} (hT : Tabs w) {A : Adds} (h : GI w W A) (hA : A.length ≤ 1000000) : Calls Tryz.prog 42 #[FV (w.heap.size + 3) W.heap.size] (W.alloc (.cells #[.int .i64 2] 3)) fun e w' => e = .returned (.tuple #[]) ∧ Aside (GI w w' (A ++ ofSet 2 (eachT anselT))) := by
  obtain ⟨P, hJ, hP, hb⟩ := h.inset 2
  exact (eachAnsel _ _ _ (steps (w.heap.size + 3) W.heap.size (w.heap.size + 2) w.heap.size (w.heap.size + 1) (w.heap.size + 4) A 2 (w64_small (by omega)) hA) [] (by simp) P w _ hT hb hP hJ).mono fun e w' hE => h.each hP hb hE
theorem cEacc {w W : World} {A : Adds} (h : GI w W A) (hA : A.length ≤ 1000000) : Calls Tryz.prog 43 #[FV (w.heap.size + 3) W.heap.size] (W.alloc (.cells #[.int .i64 9] 3)) fun e w' => e = .returned (.tuple #[]) ∧ Aside (GI w w' (A ++ ofSet 9 eaccL)) := by
  obtain ⟨P, hJ, hP, hb⟩ := h.inset 9
  exact (eaccEach _ _ _ (steps (w.heap.size + 3) W.heap.size (w.heap.size + 2) w.heap.size (w.heap.size + 1) (w.heap.size + 4) A 9 (w64_small (by omega)) hA) [] (by simp) P _ hJ).mono fun e w' hE => h.each hP hb hE
theorem cScr {w W : World} (hT : Tabs w) {A : Adds} (h : GI w W A) (hA : A.length ≤ 1000000) (m : Nat) (hm : m < 6) : Calls Tryz.prog 44 #[.int .i64 (3 + (m : Int)), FV (w.heap.size + 3) W.heap.size] (W.alloc (.cells #[.int .i64 (3 + (m : Int))] 3)) fun e w' => e = .returned (.tuple #[]) ∧ Aside (GI w w' (A ++ ofSet (3 + (m : Int)) (eachT (scrT m)))) := by
  obtain ⟨P, hJ, hP, hb⟩ := h.inset (3 + (m : Int))
  exact (scrEach m hm _ _ _ (steps (w.heap.size + 3) W.heap.size (w.heap.size + 2) w.heap.size (w.heap.size + 1) (w.heap.size + 4) A (3 + (m : Int)) (w64_small (by omega)) hA) [] (by simp) P w _ hT hb hP hJ).mono fun e w' hE => h.each hP hb hE

/-- The index as New leaves it. -/
def newW (w : World) : World := (((w.alloc (.map #[] 0)).alloc (.map #[] 0)).alloc (.cells #[.map (some w.heap.size), .map (some (w.heap.size + 1))] 85)).alloc (.cells #[.pointer (some ⟨w.heap.size + 2, 0, none⟩)] 76)
theorem newGI (w : World) : GI w (newW w) [] := by
  have hn : ∀ (u : World) (o : Obj), (u.alloc o).heap[u.heap.size]? = some o := fun u o => (MapKept.heap_alloc u o).1
  have ho : ∀ (u : World) (o : Obj) (k : Nat), k < u.heap.size → (u.alloc o).heap[k]? = u.heap[k]? := fun u o k hk => (World.grownBy_alloc u o none).block k hk (by simp)
  have hb : Below w.heap.size w (newW w) := ((((Below.refl _ w).alloc (Nat.le_refl _) _).alloc (by rw [World.size_alloc]; omega) _).alloc (by rw [World.size_alloc, World.size_alloc]; omega) _).alloc (by rw [World.size_alloc, World.size_alloc, World.size_alloc]; omega) _
  have m0 : (newW w).heap[w.heap.size]? = some (.map #[] 0) := by
    unfold newW
    rw [ho _ _ _ (by simp; omega), ho _ _ _ (by simp; omega), ho _ _ _ (by simp)]
    exact hn w _
  have m1 : (newW w).heap[w.heap.size + 1]? = some (.map #[] 0) := by
    unfold newW
    rw [ho _ _ _ (by simp <;> omega), ho _ _ _ (by simp <;> omega)]
    have := hn (w.alloc (.map #[] 0)) (.map #[] 0)
    rwa [World.size_alloc] at this
  have m2 : (newW w).heap[w.heap.size + 2]? = some (.cells #[.map (some w.heap.size), .map (some (w.heap.size + 1))] 85) := by
    unfold newW
    rw [ho _ _ _ (by simp)]
    have := hn ((w.alloc (.map #[] 0)).alloc (.map #[] 0)) (.cells #[.map (some w.heap.size), .map (some (w.heap.size + 1))] 85)
    rwa [World.size_alloc, World.size_alloc] at this
  have m3 : (newW w).heap[w.heap.size + 3]? = some (.cells #[.pointer (some ⟨w.heap.size + 2, 0, none⟩)] 76) := by
    have := hn (((w.alloc (.map #[] 0)).alloc (.map #[] 0)).alloc (.cells #[.map (some w.heap.size), .map (some (w.heap.size + 1))] 85)) (.cells #[.pointer (some ⟨w.heap.size + 2, 0, none⟩)] 76)
    rwa [World.size_alloc, World.size_alloc, World.size_alloc] at this
  have hsz : (newW w).heap.size = w.heap.size + 4 := by simp [newW]
  refine ⟨⟨fun _ => False, ⟨by simp [World.cell?, m2], by simp [World.cell?, m2], ⟨⟨#[], 0, m0, ⟨by simp, stamped_empty 0, by simp⟩, Nat.le_refl _, by simp, by simp⟩, by omega, fun k hk => hk.elim⟩, ⟨#[], 0, m1, ⟨by simp, stamped_empty 0, by simp⟩, Nat.le_refl _, rfl⟩, by omega, by omega, by omega, by omega, fun k hk => hk.elim, by omega, by simp⟩, fun h => ?_⟩, by simp [World.cell?, m3], hb⟩
  rcases h with h | h | h | h
  · omega
  · omega
  · omega
  · exact h
theorem smallR_range (set n : Int) (hset : set = 1 ∨ set = 10 ∨ set = 11 ∨ set = 12) (hn : 33 ≤ n ∧ n ≤ 126) : -2147483648 ≤ (smallR set n).1 ∧ (smallR set n).1 ≤ 2147483647 := by
  unfold smallR signsV raisedV
  repeat' split
  all_goals (simp only; omega)
set_option maxHeartbeats 16000000 in
set_option maxRecDepth 100000 in
theorem new (w : World) (hT : Tabs w) : Calls Tryz.prog 32 #[] w fun e w' => e = .returned (.pointer (some ⟨w.heap.size + 2, 0, none⟩)) ∧ GI w w' allAdds := by
  have hmm := @run_makeMap Tryz.prog
  have hsz : (newW w).heap.size = w.heap.size + 1 + 1 + 1 + 1 := by simp [newW]
  have c1 : Calls Tryz.prog 42 #[.func (.func 40) #[] #[.pointer (some ⟨w.heap.size + 1 + 1 + 1, 0, none⟩), .pointer (some ⟨w.heap.size + 1 + 1 + 1 + 1, 0, none⟩)]] ((newW w).alloc (.cells #[.int .i64 2] 3)) fun e w' => e = .returned (.tuple #[]) ∧ Aside (GI w w' (ofSet 2 (eachT anselT))) := by
    have := cAnsel hT (newGI w) (by simp)
    rw [hsz] at this
    exact this
  have H1 := Lib.hid c1
  have H2 : Hid (∀ W, GI w W (ofSet 2 (eachT anselT)) → Calls Tryz.prog 43 #[.func (.func 40) #[] #[.pointer (some ⟨w.heap.size + 1 + 1 + 1, 0, none⟩), .pointer (some ⟨W.heap.size, 0, none⟩)]] (W.alloc (.cells #[.int .i64 9] 3)) fun e w' => e = .returned (.tuple #[]) ∧ Aside (GI w w' (ofSet 2 (eachT anselT) ++ ofSet 9 eaccL))) := fun W h => cEacc h (by have := ansel_len; rw [ofSet_len]; omega)
  obtain ⟨B, hB⟩ : ∃ B, B = ofSet 2 (eachT anselT) ++ ofSet 9 eaccL := ⟨_, rfl⟩
  have hBl : B.length ≤ 454 := by rw [hB, List.length_append, ofSet_len, ofSet_len, eaccL_len]; have := ansel_len; omega
  rw [← hB] at H2
  have H3 : Hid (∀ W (m : Nat), m < 6 → GI w W (B ++ scrTo m) → Calls Tryz.prog 44 #[.int .i64 (3 + (m : Int)), .func (.func 40) #[] #[.pointer (some ⟨w.heap.size + 1 + 1 + 1, 0, none⟩), .pointer (some ⟨W.heap.size, 0, none⟩)]] (W.alloc (.cells #[.int .i64 (3 + (m : Int))] 3)) fun e w' => e = .returned (.tuple #[]) ∧ Aside (GI w w' (B ++ scrTo (m + 1)))) := fun W m hm h => by
    rw [scrTo_succ, ← List.append_assoc]
    exact cScr hT h (by have := scrTo_len m; rw [List.length_append]; omega) m hm
  obtain ⟨B2, hB2⟩ : ∃ B2, B2 = B ++ scrTo 6 := ⟨_, rfl⟩
  have hB2l : B2.length ≤ 1054 := by rw [hB2, List.length_append]; have := scrTo_len 6; omega
  have hall : allAdds = B2 ++ smallSets 4 := by rw [hB2, hB]; rfl
  rw [hall]
  have HB2 : Aside (B2.length ≤ 1054) := hB2l
  have HBB : Aside (B2 = B ++ scrTo 6) := hB2
  clear c1 hsz hT hB hBl hB2 hB2l hall
  generalize ofSet 2 (eachT anselT) = B0 at H1 H2
  go_enter Tryz.func32, Tryz.ntmps32
  go_wp2_with (first
    | (go_at_call 39; refine (inSet _ _ _).mono ?_; rintro e w' ⟨rfl, rfl⟩)
    | (go_at_call 42; refine H1.out.mono ?_; rintro e W1 ⟨rfl, hG1⟩; clear H1)
    | (go_at_call 43; refine (H2.out _ hG1.out).mono ?_; rintro e W2 ⟨rfl, hG2⟩; clear H2 hG1))
  go_loopg [3] 6 (fun g1 vi wr => ∃ (m : Nat), vi = .int .i64 (3 + (m : Int)) ∧ m ≤ 6 ∧ 6 - m ≤ g1 ∧ Aside (GI w wr (B ++ scrTo m)))
  case atStart => exact ⟨0, rfl, by omega, by omega, (show GI w W2 (B ++ scrTo 0) by simpa [scrTo] using hG2.out)⟩
  case round =>
    clear hG2
    obtain ⟨m, rfl, hm, hg1, HG⟩ := hrel
    by_cases hlt : m < 6
    · have hle : 3 + (m : Int) ≤ 8 := by omega
      go_wp2_with (first
        | (go_at_call 39; refine (inSet _ _ _).mono ?_; rintro e w' ⟨rfl, rfl⟩)
        | (go_at_call 44; refine (H3.out _ m hlt HG.out).mono ?_; rintro e W3 ⟨rfl, hG3⟩))
      go_roundg (6 - (m + 1))
      case measure => omega
      case rel => exact ⟨m + 1, by first | rfl | go_num, by omega, by omega, hG3⟩
    · have hle : ¬ 3 + (m : Int) ≤ 8 := by omega
      obtain rfl : m = 6 := by omega
      clear H3
      have HG2 : Aside (GI w wr B2) := by rw [HBB.out]; exact HG.out
      clear HG HBB
      go_wp2
      go_loopg [30] 4 (fun g1 vi wr => ∃ (j : Nat), vi = .int .i64 (j : Int) ∧ j ≤ 4 ∧ 4 - j ≤ g1 ∧ Aside (GI w wr (B2 ++ smallSets j)))
      case atStart => exact ⟨0, rfl, by omega, by omega, (show GI w wr (B2 ++ smallSets 0) by simpa [smallSets] using HG2.out)⟩
      case round =>
      clear HG2
      obtain ⟨j, rfl, hj, hg1, HA⟩ := hrel
      by_cases hj4 : j = 4
      · subst hj4
        have hp : wr.cell? ⟨w.heap.size + 1 + 1 + 1, 0, none⟩ = some (.pointer (some ⟨w.heap.size + 1 + 1, 0, none⟩)) := HA.out.px
        go_wp2
        go_ret
        exact ⟨rfl, HA.out⟩
      obtain rfl | rfl | rfl | rfl : j = 0 ∨ j = 1 ∨ j = 2 ∨ j = 3 := by omega
      · skip
        have hjs : smallSets (0 + 1) = smallSets 0 ++ smallTo 1 94 := smallSets_succ 0
        have HJS : Aside (smallSets (0 + 1) = smallSets 0 ++ smallTo 1 94) := hjs
        clear hjs
        have hix : ∀ W, (Instr.index 93 (Value.agg #[.int .i64 1, .int .i64 10, .int .i64 11, .int .i64 12]) (.int .i64 0)).run Tryz.prog W = .ok (.int .i64 1) W := fun W => by kernel_rfl
        go_wp2
        go_loopg [6] 94 (fun g2 vn wr => ∃ (i : Nat), vn = .int .i64 (33 + (i : Int)) ∧ i ≤ 94 ∧ 94 - i ≤ g2 ∧ Aside (GI w wr (B2 ++ smallSets 0 ++ smallTo 1 i)))
        case atStart => exact ⟨0, rfl, by omega, by omega, by have h := HA.out; rw [← List.append_nil (B2 ++ smallSets 0)] at h; exact h⟩
        case round =>
          clear HA
          obtain ⟨i, rfl, hi, hg2, HI⟩ := hrel
          by_cases hlt : i < 94
          · have hle : 33 + (i : Int) ≤ 126 := by omega
            have cR := fun W => grune 1 (33 + (i : Int)) (by decide) ⟨by omega, hle⟩ W
            have hrr := smallR_range 1 (33 + (i : Int)) (by decide) ⟨by omega, hle⟩
            have hone : smallTo 1 (i + 1) = smallTo 1 i ++ (if (smallR 1 (33 + (i : Int))).2 then [(1, 33 + (i : Int), (smallR 1 (33 + (i : Int))).1)] else []) := smallTo_succ 1 i
            generalize smallR 1 (33 + (i : Int)) = R at cR hrr hone
            obtain ⟨rx, ry⟩ := R
            simp only at cR hrr hone
            cases ry with
            | false =>
              have HN : Aside (smallTo 1 (i + 1) = smallTo 1 i) := (show smallTo 1 (i + 1) = smallTo 1 i by simpa using hone)
              clear hone
              go_wp2_with (go_at_call 45; refine (cR _).mono ?_; rintro e W5 ⟨rfl, hb5⟩)
              go_roundg (94 - (i + 1))
              case measure => omega
              case rel => exact ⟨i + 1, by first | rfl | go_num, by omega, by omega, by rw [HN.out]; exact HI.out.go hb5⟩
            | true =>
              have HN : Aside (smallTo 1 (i + 1) = smallTo 1 i ++ [(1, 33 + (i : Int), rx)]) := (show smallTo 1 (i + 1) = smallTo 1 i ++ [(1, 33 + (i : Int), rx)] by simpa using hone)
              have HL : Aside ((B2 ++ smallSets 0 ++ smallTo 1 i).length ≤ 1000000) := by
                refine (show (B2 ++ smallSets 0 ++ smallTo 1 i).length ≤ 1000000 from ?_)
                have h1 := HB2.out
                have h2 := smallSets_len 0
                have h3 := smallTo_len 1 i
                rw [List.length_append, List.length_append]
                omega
              clear hone
              go_wp2_with (first
                | (go_at_call 40; refine ((HI.out.go hb5).one HL.out 1 (33 + (i : Int)) rx (w64_small (by omega)) ⟨by omega, by omega⟩ hrr).mono ?_; rintro e W6 ⟨rfl, hG6⟩; have HG6 : Aside (GI w W6 (B2 ++ smallSets 0 ++ smallTo 1 i ++ [(1, 33 + (i : Int), rx)])) := hG6; clear hG6)
                | (go_at_call 39; refine (inSet _ _ _).mono ?_; rintro e w' ⟨rfl, rfl⟩)
                | (go_at_call 45; refine (cR _).mono ?_; rintro e W5 ⟨rfl, hb5⟩))
              go_roundg (94 - (i + 1))
              case measure => omega
              case rel => exact ⟨i + 1, by first | rfl | go_num, by omega, by omega, by rw [HN.out, ← List.append_assoc]; exact HG6.out⟩
          · have hle : ¬ 33 + (i : Int) ≤ 126 := by omega
            obtain rfl : i = 94 := by omega
            go_wp2
            go_roundg (4 - (0 + 1))
            case measure => omega
            case rel => exact ⟨0 + 1, by first | rfl | go_num, by omega, by omega, by rw [HJS.out, ← List.append_assoc]; exact HI.out⟩
      · skip
        have hjs : smallSets (1 + 1) = smallSets 1 ++ smallTo 10 94 := smallSets_succ 1
        have HJS : Aside (smallSets (1 + 1) = smallSets 1 ++ smallTo 10 94) := hjs
        clear hjs
        have hix : ∀ W, (Instr.index 93 (Value.agg #[.int .i64 1, .int .i64 10, .int .i64 11, .int .i64 12]) (.int .i64 1)).run Tryz.prog W = .ok (.int .i64 10) W := fun W => by kernel_rfl
        go_wp2
        go_loopg [6] 94 (fun g2 vn wr => ∃ (i : Nat), vn = .int .i64 (33 + (i : Int)) ∧ i ≤ 94 ∧ 94 - i ≤ g2 ∧ Aside (GI w wr (B2 ++ smallSets 1 ++ smallTo 10 i)))
        case atStart => exact ⟨0, rfl, by omega, by omega, by have h := HA.out; rw [← List.append_nil (B2 ++ smallSets 1)] at h; exact h⟩
        case round =>
          clear HA
          obtain ⟨i, rfl, hi, hg2, HI⟩ := hrel
          by_cases hlt : i < 94
          · have hle : 33 + (i : Int) ≤ 126 := by omega
            have cR := fun W => grune 10 (33 + (i : Int)) (by decide) ⟨by omega, hle⟩ W
            have hrr := smallR_range 10 (33 + (i : Int)) (by decide) ⟨by omega, hle⟩
            have hone : smallTo 10 (i + 1) = smallTo 10 i ++ (if (smallR 10 (33 + (i : Int))).2 then [(10, 33 + (i : Int), (smallR 10 (33 + (i : Int))).1)] else []) := smallTo_succ 10 i
            generalize smallR 10 (33 + (i : Int)) = R at cR hrr hone
            obtain ⟨rx, ry⟩ := R
            simp only at cR hrr hone
            cases ry with
            | false =>
              have HN : Aside (smallTo 10 (i + 1) = smallTo 10 i) := (show smallTo 10 (i + 1) = smallTo 10 i by simpa using hone)
              clear hone
              go_wp2_with (go_at_call 45; refine (cR _).mono ?_; rintro e W5 ⟨rfl, hb5⟩)
              go_roundg (94 - (i + 1))
              case measure => omega
              case rel => exact ⟨i + 1, by first | rfl | go_num, by omega, by omega, by rw [HN.out]; exact HI.out.go hb5⟩
            | true =>
              have HN : Aside (smallTo 10 (i + 1) = smallTo 10 i ++ [(10, 33 + (i : Int), rx)]) := (show smallTo 10 (i + 1) = smallTo 10 i ++ [(10, 33 + (i : Int), rx)] by simpa using hone)
              have HL : Aside ((B2 ++ smallSets 1 ++ smallTo 10 i).length ≤ 1000000) := by
                refine (show (B2 ++ smallSets 1 ++ smallTo 10 i).length ≤ 1000000 from ?_)
                have h1 := HB2.out
                have h2 := smallSets_len 1
                have h3 := smallTo_len 10 i
                rw [List.length_append, List.length_append]
                omega
              clear hone
              go_wp2_with (first
                | (go_at_call 40; refine ((HI.out.go hb5).one HL.out 10 (33 + (i : Int)) rx (w64_small (by omega)) ⟨by omega, by omega⟩ hrr).mono ?_; rintro e W6 ⟨rfl, hG6⟩; have HG6 : Aside (GI w W6 (B2 ++ smallSets 1 ++ smallTo 10 i ++ [(10, 33 + (i : Int), rx)])) := hG6; clear hG6)
                | (go_at_call 39; refine (inSet _ _ _).mono ?_; rintro e w' ⟨rfl, rfl⟩)
                | (go_at_call 45; refine (cR _).mono ?_; rintro e W5 ⟨rfl, hb5⟩))
              go_roundg (94 - (i + 1))
              case measure => omega
              case rel => exact ⟨i + 1, by first | rfl | go_num, by omega, by omega, by rw [HN.out, ← List.append_assoc]; exact HG6.out⟩
          · have hle : ¬ 33 + (i : Int) ≤ 126 := by omega
            obtain rfl : i = 94 := by omega
            go_wp2
            go_roundg (4 - (1 + 1))
            case measure => omega
            case rel => exact ⟨1 + 1, by first | rfl | go_num, by omega, by omega, by rw [HJS.out, ← List.append_assoc]; exact HI.out⟩
      · skip
        have hjs : smallSets (2 + 1) = smallSets 2 ++ smallTo 11 94 := smallSets_succ 2
        have HJS : Aside (smallSets (2 + 1) = smallSets 2 ++ smallTo 11 94) := hjs
        clear hjs
        have hix : ∀ W, (Instr.index 93 (Value.agg #[.int .i64 1, .int .i64 10, .int .i64 11, .int .i64 12]) (.int .i64 2)).run Tryz.prog W = .ok (.int .i64 11) W := fun W => by kernel_rfl
        go_wp2
        go_loopg [6] 94 (fun g2 vn wr => ∃ (i : Nat), vn = .int .i64 (33 + (i : Int)) ∧ i ≤ 94 ∧ 94 - i ≤ g2 ∧ Aside (GI w wr (B2 ++ smallSets 2 ++ smallTo 11 i)))
        case atStart => exact ⟨0, rfl, by omega, by omega, by have h := HA.out; rw [← List.append_nil (B2 ++ smallSets 2)] at h; exact h⟩
        case round =>
          clear HA
          obtain ⟨i, rfl, hi, hg2, HI⟩ := hrel
          by_cases hlt : i < 94
          · have hle : 33 + (i : Int) ≤ 126 := by omega
            have cR := fun W => grune 11 (33 + (i : Int)) (by decide) ⟨by omega, hle⟩ W
            have hrr := smallR_range 11 (33 + (i : Int)) (by decide) ⟨by omega, hle⟩
            have hone : smallTo 11 (i + 1) = smallTo 11 i ++ (if (smallR 11 (33 + (i : Int))).2 then [(11, 33 + (i : Int), (smallR 11 (33 + (i : Int))).1)] else []) := smallTo_succ 11 i
            generalize smallR 11 (33 + (i : Int)) = R at cR hrr hone
            obtain ⟨rx, ry⟩ := R
            simp only at cR hrr hone
            cases ry with
            | false =>
              have HN : Aside (smallTo 11 (i + 1) = smallTo 11 i) := (show smallTo 11 (i + 1) = smallTo 11 i by simpa using hone)
              clear hone
              go_wp2_with (go_at_call 45; refine (cR _).mono ?_; rintro e W5 ⟨rfl, hb5⟩)
              go_roundg (94 - (i + 1))
              case measure => omega
              case rel => exact ⟨i + 1, by first | rfl | go_num, by omega, by omega, by rw [HN.out]; exact HI.out.go hb5⟩
            | true =>
              have HN : Aside (smallTo 11 (i + 1) = smallTo 11 i ++ [(11, 33 + (i : Int), rx)]) := (show smallTo 11 (i + 1) = smallTo 11 i ++ [(11, 33 + (i : Int), rx)] by simpa using hone)
              have HL : Aside ((B2 ++ smallSets 2 ++ smallTo 11 i).length ≤ 1000000) := by
                refine (show (B2 ++ smallSets 2 ++ smallTo 11 i).length ≤ 1000000 from ?_)
                have h1 := HB2.out
                have h2 := smallSets_len 2
                have h3 := smallTo_len 11 i
                rw [List.length_append, List.length_append]
                omega
              clear hone
              go_wp2_with (first
                | (go_at_call 40; refine ((HI.out.go hb5).one HL.out 11 (33 + (i : Int)) rx (w64_small (by omega)) ⟨by omega, by omega⟩ hrr).mono ?_; rintro e W6 ⟨rfl, hG6⟩; have HG6 : Aside (GI w W6 (B2 ++ smallSets 2 ++ smallTo 11 i ++ [(11, 33 + (i : Int), rx)])) := hG6; clear hG6)
                | (go_at_call 39; refine (inSet _ _ _).mono ?_; rintro e w' ⟨rfl, rfl⟩)
                | (go_at_call 45; refine (cR _).mono ?_; rintro e W5 ⟨rfl, hb5⟩))
              go_roundg (94 - (i + 1))
              case measure => omega
              case rel => exact ⟨i + 1, by first | rfl | go_num, by omega, by omega, by rw [HN.out, ← List.append_assoc]; exact HG6.out⟩
          · have hle : ¬ 33 + (i : Int) ≤ 126 := by omega
            obtain rfl : i = 94 := by omega
            go_wp2
            go_roundg (4 - (2 + 1))
            case measure => omega
            case rel => exact ⟨2 + 1, by first | rfl | go_num, by omega, by omega, by rw [HJS.out, ← List.append_assoc]; exact HI.out⟩
      · skip
        have hjs : smallSets (3 + 1) = smallSets 3 ++ smallTo 12 94 := smallSets_succ 3
        have HJS : Aside (smallSets (3 + 1) = smallSets 3 ++ smallTo 12 94) := hjs
        clear hjs
        have hix : ∀ W, (Instr.index 93 (Value.agg #[.int .i64 1, .int .i64 10, .int .i64 11, .int .i64 12]) (.int .i64 3)).run Tryz.prog W = .ok (.int .i64 12) W := fun W => by kernel_rfl
        go_wp2
        go_loopg [6] 94 (fun g2 vn wr => ∃ (i : Nat), vn = .int .i64 (33 + (i : Int)) ∧ i ≤ 94 ∧ 94 - i ≤ g2 ∧ Aside (GI w wr (B2 ++ smallSets 3 ++ smallTo 12 i)))
        case atStart => exact ⟨0, rfl, by omega, by omega, by have h := HA.out; rw [← List.append_nil (B2 ++ smallSets 3)] at h; exact h⟩
        case round =>
          clear HA
          obtain ⟨i, rfl, hi, hg2, HI⟩ := hrel
          by_cases hlt : i < 94
          · have hle : 33 + (i : Int) ≤ 126 := by omega
            have cR := fun W => grune 12 (33 + (i : Int)) (by decide) ⟨by omega, hle⟩ W
            have hrr := smallR_range 12 (33 + (i : Int)) (by decide) ⟨by omega, hle⟩
            have hone : smallTo 12 (i + 1) = smallTo 12 i ++ (if (smallR 12 (33 + (i : Int))).2 then [(12, 33 + (i : Int), (smallR 12 (33 + (i : Int))).1)] else []) := smallTo_succ 12 i
            generalize smallR 12 (33 + (i : Int)) = R at cR hrr hone
            obtain ⟨rx, ry⟩ := R
            simp only at cR hrr hone
            cases ry with
            | false =>
              have HN : Aside (smallTo 12 (i + 1) = smallTo 12 i) := (show smallTo 12 (i + 1) = smallTo 12 i by simpa using hone)
              clear hone
              go_wp2_with (go_at_call 45; refine (cR _).mono ?_; rintro e W5 ⟨rfl, hb5⟩)
              go_roundg (94 - (i + 1))
              case measure => omega
              case rel => exact ⟨i + 1, by first | rfl | go_num, by omega, by omega, by rw [HN.out]; exact HI.out.go hb5⟩
            | true =>
              have HN : Aside (smallTo 12 (i + 1) = smallTo 12 i ++ [(12, 33 + (i : Int), rx)]) := (show smallTo 12 (i + 1) = smallTo 12 i ++ [(12, 33 + (i : Int), rx)] by simpa using hone)
              have HL : Aside ((B2 ++ smallSets 3 ++ smallTo 12 i).length ≤ 1000000) := by
                refine (show (B2 ++ smallSets 3 ++ smallTo 12 i).length ≤ 1000000 from ?_)
                have h1 := HB2.out
                have h2 := smallSets_len 3
                have h3 := smallTo_len 12 i
                rw [List.length_append, List.length_append]
                omega
              clear hone
              go_wp2_with (first
                | (go_at_call 40; refine ((HI.out.go hb5).one HL.out 12 (33 + (i : Int)) rx (w64_small (by omega)) ⟨by omega, by omega⟩ hrr).mono ?_; rintro e W6 ⟨rfl, hG6⟩; have HG6 : Aside (GI w W6 (B2 ++ smallSets 3 ++ smallTo 12 i ++ [(12, 33 + (i : Int), rx)])) := hG6; clear hG6)
                | (go_at_call 39; refine (inSet _ _ _).mono ?_; rintro e w' ⟨rfl, rfl⟩)
                | (go_at_call 45; refine (cR _).mono ?_; rintro e W5 ⟨rfl, hb5⟩))
              go_roundg (94 - (i + 1))
              case measure => omega
              case rel => exact ⟨i + 1, by first | rfl | go_num, by omega, by omega, by rw [HN.out, ← List.append_assoc]; exact HG6.out⟩
          · have hle : ¬ 33 + (i : Int) ≤ 126 := by omega
            obtain rfl : i = 94 := by omega
            go_wp2
            go_roundg (4 - (3 + 1))
            case measure => omega
            case rel => exact ⟨3 + 1, by first | rfl | go_num, by omega, by omega, by rw [HJS.out, ← List.append_assoc]; exact HI.out⟩
end Go.Proofs.YtemhfcgkfdklhaaGreatDoor.Look
