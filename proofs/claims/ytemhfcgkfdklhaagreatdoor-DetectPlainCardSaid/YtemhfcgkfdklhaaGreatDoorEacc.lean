/- eacc.all and eacc.Each. -/
import Derived.Lib.SmallJoins
import Derived.Lib.OthersKept
import Derived.LoopTactic
import Derived.Deep.LoopGhost
import Derived.Laws.RangeString
import Derived.Laws.RangeAny
import Derived.Maps.AppendAt
import Derived.Test.YtemhfcgkfdklhaaGreatDoorEachP
set_option linter.unusedVariables false
namespace Go.Proofs.YtemhfcgkfdklhaaGreatDoor.Look
open Go Go.RowKit Go.Shelf Go.Proofs

/-- The characters, in their order. -/
def runes : List Int := [19968, 19969, 19971, 19976, 19977, 19979, 19978, 19981, 19985, 19988, 19990, 19992, 19993, 20006, 20013, 20024, 20025, 20027, 20035, 20037, 20043, 20045, 20046, 20047, 20054, 20056, 20057, 20061, 20062, 20063, 20083, 20094, 20098, 20102, 20104, 20107, 20108, 20110, 20113, 20114, 20116, 20117, 20123, 20126, 20129, 20132, 20133, 20134, 20136, 20139, 20140, 20141, 20154, 20160, 20161, 20167, 20170, 20171, 20173, 20182, 20184, 20185, 20195, 20196, 20197, 20208, 20210, 20214, 20219, 20225, 20234, 20237, 20241, 20239, 20271, 20276, 20280, 20284, 20301, 20302, 20303, 20309, 20313, 20315, 20316, 20320, 20329, 20339, 20351, 20358, 20363, 20379, 20381, 20415, 20418, 20419, 20420, 20426, 20439, 20445, 20449, 20462, 20491, 20493, 20498, 20505, 20511, 20523, 20540, 20551, 20553, 20559, 20581, 20596, 20598, 20621, 20625, 20633, 20659, 20663, 20687, 20677, 20689, 20736, 20740, 20754, 20778, 20803, 20804, 20805, 20806, 20808, 20809, 20811, 20813, 20818, 20837, 20839, 20840, 20841, 20843, 20844, 20845, 20849, 20853, 20854, 20855, 20856, 20877, 20874, 20908, 20912, 20919, 20934, 20961, 20986, 20992, 20998, 20999, 21009, 21015, 21021, 21028, 21029, 21033, 21040, 21046, 21050, 21051, 21063, 21069, 21083, 21109, 21147, 21151]
/-- Their bytes. -/
def runesS : ByteArray := ⟨((runes.flatMap fun r => [224 + r / 4096, 128 + r / 64 % 64, 128 + r % 64]).map fun b => UInt8.ofNat b.toNat).toArray⟩
theorem runesS_size : runesS.size = 525 := by decide +kernel
theorem runesS_all : ∀ j : Fin 175, Utf8.decode runesS (3 * j.val) = ((runes.getD j.val 0).toNat, 3) ∧ 0 ≤ runes.getD j.val 0 ∧ runes.getD j.val 0 ≤ 1114111 := by decide +kernel
theorem runesS_at (j : Nat) (hj : j < 175) : (((Utf8.decode runesS (3 * j)).1 : Nat) : Int) = runes.getD j 0 ∧ (Utf8.decode runesS (3 * j)).2 = 3 := by
  have := runesS_all ⟨j, hj⟩
  simp only at this
  rw [this.1]
  exact ⟨Int.toNat_of_nonneg this.2.1, rfl⟩
/-- The iterator in block IT stands ahead of the character number j. -/
def IterAt (w : World) (IT j : Nat) : Prop := j ≤ 175 ∧ w.heap[IT]? = some (.stringIter runesS (3 * j))
theorem IterAt.lt {w : World} {IT j : Nat} (h : IterAt w IT j) : IT < w.heap.size := (Array.getElem?_eq_some_iff.1 h.2).1
theorem IterAt.next {w : World} {IT j : Nat} (h : IterAt w IT j) (ty : TypeId) (hj : j < 175) : (Instr.next (.pointer (some ⟨IT, 0, none⟩)) true ty).run Tryz.prog w = .ok (.tuple #[.bool true, .int .i64 ((3 * j : Nat) : Int), .int .i32 (runes.getD j 0)]) (w.iterAt IT runesS (3 * (j + 1))) := by
  obtain ⟨d1, d2⟩ := runesS_at j hj
  have := Lib.run_next_any_at (P := Tryz.prog) w IT runesS (3 * j) ty h.2 (by rw [runesS_size]; omega)
  rw [d1, d2] at this
  rw [show 3 * (j + 1) = 3 * j + 3 by omega]
  exact this
theorem IterAt.step {w : World} {IT j : Nat} (h : IterAt w IT j) (hj : j < 175) : IterAt (w.iterAt IT runesS (3 * (j + 1))) IT (j + 1) :=
  ⟨by omega, Lib.iterAt_heap w IT runesS (3 * j) (3 * (j + 1)) h.2⟩
theorem IterAt.grown {w w1 : World} {IT j : Nat} {row : Option Nat} (h : IterAt w IT j) (hg : w.grownBy w1 row) (hne : some IT ≠ row) : IterAt w1 IT j := ⟨h.1, (hg.block IT h.lt hne).trans h.2⟩
theorem IterAt.done {w : World} {IT j : Nat} (h : IterAt w IT j) (ty : TypeId) (hj : ¬ j < 175) : (Instr.next (.pointer (some ⟨IT, 0, none⟩)) true ty).run Tryz.prog w = .ok (.tuple #[.bool false]) w :=
  Lib.run_next_end_at w IT runesS (3 * j) ty h.2 (by rw [runesS_size]; omega)

theorem iterAt_grown (w : World) (IT k : Nat) : w.grownBy (w.iterAt IT runesS (3 * (k + 1))) (some IT) :=
  ⟨rfl, rfl, rfl, by simp [World.iterAt], fun j _ hne => Lib.iterAt_other w IT j runesS _ fun e => hne (by rw [e])⟩
/-! ### rows of codes -/
def encC (l : List (Int × Int)) : List Value := l.flatMap fun x => [.int .i64 x.1, .int .i32 x.2]
theorem encC_len (l : List (Int × Int)) : (encC l).length = l.length * 2 := by
  induction l with
  | nil => rfl
  | cons a l ih => simp only [encC, List.flatMap_cons, List.length_append, List.length_cons, List.length_nil] at ih ⊢; omega
theorem encC_append (l m : List (Int × Int)) : encC (l ++ m) = encC l ++ encC m := by simp [encC]
theorem encC_one (l : List (Int × Int)) : ∀ u ∈ encC l, u.oneCell' = true := by
  intro u hu
  obtain ⟨x, _, hx⟩ := List.mem_flatMap.1 hu
  simp at hx
  rcases hx with rfl | rfl <;> rfl
def OwnC (w : World) (base : Nat) (v : Value) (l : List (Int × Int)) : Prop := w.ownsRow base 114 2 v l.length (encC l)
theorem iCode : (Tryz.prog.info? 114).map (fun i => (i.zero, i.size, i.bytes)) = some (some (.agg #[.int .i64 0, .int .i32 0]), 2, 16) := by kernel_rfl
theorem append_code_at {ops : Array Oper} {rest : List Oper} {o : Oper} {a : Act} {Q : Exit → Act → World → Prop} {w : World} (hgd : o.guard = none) (s x : Operand)
    (ho : o.op = .call { callee := .builtin .append, args := #[s, x], argTypes := #[111, 111] })
    (base : Nat) (v : Value) (xs : List (Int × Int)) (hs : a.eval s = v) (hown : OwnC w base v xs) (ad : Addr) (m c : Nat) (l : List (Int × Int)) (hm : m = l.length) (hx : a.eval x = .slice (some ad) m c) (hc : ∀ j u, (encC l)[j]? = some u → w.cell? (ad.add j) = some u) (hlen : xs.length + l.length ≤ 1000000) (hbase : base ≤ w.heap.size)
    (h : ∀ v' w', OwnC w' base v' (xs ++ l) → w.grownBy w' v.ownBlock → Below base w w' → (v'.ownBlock = v.ownBlock ∨ v'.ownBlock = some w.heap.size) → wpList Tryz.prog ops Q rest (a.put o.dst v') w') : wpList Tryz.prog ops Q (o :: rest) a w := by
  subst hm
  obtain ⟨ie, hi, hz, hsz, hby⟩ := info_parts iCode
  refine wpList_append_own_at w hgd s x 111 ho base 114 ie (.agg #[.int .i64 0, .int .i32 0]) 2 16 Tryz.underlying111 hi hz hsz hby rfl (by omega) v xs.length (encC xs) hs hown ad l.length c (encC l) hx (encC_len l) hc (encC_one l) (by unfold maxLen; omega) (by omega) hbase ?_
  intro v' w' h1 h2 _ h4
  refine h v' w' ?_ h2 ((Below.refl _ _).grown h2 hbase fun k hk => (hown.lt k hk).1) h4
  unfold OwnC
  rw [List.length_append, encC_append]
  exact h1
theorem one_code (W : World) (n : Nat) (a b : Int) (hn : n = W.heap.size) : ∀ j u, (encC [(a, b)])[j]? = some u → (W.alloc (.cells #[.int .i64 a, .int .i32 b] 114)).cell? ((⟨n, 0, none⟩ : Addr).add j) = some u := by
  subst hn
  intro j u hj
  have hadd : ((⟨W.heap.size, 0, none⟩ : Addr).add j) = ⟨W.heap.size, j, none⟩ := by unfold Addr.add; split <;> simp_all
  have hnew : (W.alloc (.cells #[.int .i64 a, .int .i32 b] 114)).heap[W.heap.size]? = some (.cells #[.int .i64 a, .int .i32 b] 114) := World.alloc_heap_new W _
  rw [hadd]
  simp only [World.cell?, hnew]
  simpa [encC] using hj
theorem OwnC.alloc {w : World} {base : Nat} {v : Value} {l : List (Int × Int)} (h : OwnC w base v l) (o : Obj) : OwnC (w.alloc o) base v l := World.ownsRow.alloc h o

def signsL : List (Int × Int) := [(2171681, 12288), (2171688, 12289), (2171689, 12290), (2171690, 12300), (2171691, 12301), (6891052, 12540)]
def othersL : List (Int × Int) := [(2568225, 19968), (2568228, 19976), (2568237, 19992), (3362337, 12300)]
def kanaL (n : Nat) : List (Int × Int) := (List.range n).map fun i : Nat => (6890529 + (i : Int), 12353 + (i : Int))
def kataL (n : Nat) : List (Int × Int) := (List.range n).map fun i : Nat => (6890785 + (i : Int), 12449 + (i : Int))
def ideoL (n : Nat) : List (Int × Int) := (List.range n).map fun k : Nat => (2175009 + (k : Int) / 94 * 256 + (k : Int) % 94, runes.getD k 0)
def eaccL : List (Int × Int) := signsL ++ othersL ++ kanaL 83 ++ kataL 86 ++ ideoL 175
theorem kanaL_succ (n : Nat) : kanaL (n + 1) = kanaL n ++ [(6890529 + (n : Int), 12353 + (n : Int))] := by simp [kanaL, List.range_succ]
theorem kataL_succ (n : Nat) : kataL (n + 1) = kataL n ++ [(6890785 + (n : Int), 12449 + (n : Int))] := by simp [kataL, List.range_succ]
theorem ideoL_succ (n : Nat) : ideoL (n + 1) = ideoL n ++ [(2175009 + (n : Int) / 94 * 256 + (n : Int) % 94, runes.getD n 0)] := by simp [ideoL, List.range_succ]

theorem kanaL_len (n : Nat) : (kanaL n).length = n := by simp [kanaL]
theorem kataL_len (n : Nat) : (kataL n).length = n := by simp [kataL]
theorem ideoL_len (n : Nat) : (ideoL n).length = n := by simp [ideoL]
theorem rowC (W : World) (n : Nat) (l : List (Int × Int)) (hl : l.length ≤ maxLen) : OwnC (W.alloc (.cells (encC l).toArray 114)) W.heap.size (.slice (some ⟨W.heap.size, 0, none⟩) l.length l.length) l := by
  refine ⟨encC_len l, .inr ⟨W.heap.size, l.length, (encC l).toArray, rfl, Nat.le_refl _, World.alloc_heap_new W _, Nat.le_refl _, hl, by simp [encC_len], ?_⟩⟩
  rw [← encC_len]
  exact List.take_length
set_option maxHeartbeats 4000000 in
set_option maxRecDepth 100000 in
theorem signs (w : World) : Calls Tryz.prog 79 #[] w fun e w' => e = .returned (.slice (some ⟨w.heap.size, 0, none⟩) 6 6) ∧ w' = w.alloc (.cells (encC signsL).toArray 114) := by
  go_enter Tryz.func79, Tryz.ntmps79
  go_wp2
  go_ret
  exact ⟨rfl, rfl⟩
set_option maxHeartbeats 4000000 in
set_option maxRecDepth 100000 in
theorem others (w : World) : Calls Tryz.prog 80 #[] w fun e w' => e = .returned (.slice (some ⟨w.heap.size, 0, none⟩) 4 4) ∧ w' = w.alloc (.cells (encC othersL).toArray 114) := by
  go_enter Tryz.func80, Tryz.ntmps80
  go_wp2
  go_ret
  exact ⟨rfl, rfl⟩

set_option maxHeartbeats 16000000 in
set_option maxRecDepth 1000000 in
theorem all (w : World) : Calls Tryz.prog 58 #[] w fun e w' => ∃ v, e = .returned v ∧ OwnC w' w.heap.size v eaccL ∧ Below w.heap.size w w' := by
  have cS : Calls Tryz.prog 79 #[] w fun e w' => ∃ W1, e = .returned (.slice (some ⟨w.heap.size, 0, none⟩) 6 6) ∧ w' = W1 ∧ Aside (OwnC W1 w.heap.size (.slice (some ⟨w.heap.size, 0, none⟩) 6 6) signsL ∧ Below w.heap.size w W1) := by
    refine (signs w).mono ?_
    rintro e w' ⟨rfl, rfl⟩
    exact ⟨_, rfl, rfl, rowC w 0 signsL (by decide), (Below.refl _ _).alloc (Nat.le_refl _) _⟩
  have cO : ∀ W1, OwnC W1 w.heap.size (.slice (some ⟨w.heap.size, 0, none⟩) 6 6) signsL ∧ Below w.heap.size w W1 → Calls Tryz.prog 80 #[] W1 fun e w' => ∃ n, e = .returned (.slice (some ⟨n, 0, none⟩) 4 4) ∧ OwnC w' w.heap.size (.slice (some ⟨w.heap.size, 0, none⟩) 6 6) signsL ∧ Below w.heap.size w w' ∧ ∀ j u, (encC othersL)[j]? = some u → w'.cell? ((⟨n, 0, none⟩ : Addr).add j) = some u := fun W1 ⟨h1, h2⟩ => by
    refine (others W1).mono ?_
    rintro e w' ⟨rfl, rfl⟩
    refine ⟨W1.heap.size, rfl, h1.alloc _, h2.alloc h2.size _, ?_⟩
    exact World.ownsRow.cells (rowC W1 0 othersL (by decide)) rfl
  have HO := Lib.hid cO
  clear cO
  go_enter Tryz.func58, Tryz.ntmps58
  go_wp2_with (first
    | (at_builtin; refine append_code_at rfl _ _ rfl w.heap.size _ signsL rfl hO1 ⟨n, 0, none⟩ 4 4 othersL rfl rfl hO3 (by decide) hO2.size ?_; intro v1 W3 ho1 hg1 hb1 _; have hI : Aside (OwnC W3 w.heap.size v1 (signsL ++ othersL ++ kanaL 0) ∧ Below w.heap.size w W3) := ⟨by simpa [kanaL] using ho1, hO2.trans hb1⟩; clear ho1 hg1 hb1 hO1 hO2 hO3)
    | (go_at_call 79; refine cS.mono ?_; rintro e W1 ⟨_, rfl, rfl, hS1⟩)
    | (go_at_call 80; refine (HO.out _ hS1.out).mono ?_; rintro e W2 ⟨n, rfl, hO1, hO2, hO3⟩; clear cS HO hS1))
  go_loopg [1, 2] 83 (fun g1 vo vi wr => ∃ (i : Nat), vi = .int .i64 (6890529 + (i : Int)) ∧ i ≤ 83 ∧ 83 - i ≤ g1 ∧ Aside (OwnC wr w.heap.size vo (signsL ++ othersL ++ kanaL i) ∧ Below w.heap.size w wr))
  case atStart => exact ⟨0, rfl, by omega, by omega, hI⟩
  case round =>
    clear hI
    obtain ⟨i, rfl, hi, hg1, HI⟩ := hrel
    by_cases hlt : i < 83
    · have hle : 6890529 + (i : Int) ≤ 6890611 := by omega
      go_wp2_with (at_builtin; refine append_code_at rfl _ _ rfl w.heap.size _ (signsL ++ othersL ++ kanaL i) rfl (HI.out.1.alloc _) ⟨wr.heap.size, 0, none⟩ 1 1 [(_, _)] rfl rfl (one_code _ _ _ _ rfl) (by have := kanaL_len i; simp [signsL, othersL]; omega) (by have := HI.out.2.size; simp; omega) ?_; intro v' W3 ho hg hb _; have hb2 := (HI.out.2.alloc HI.out.2.size _).trans hb; clear hg hb)
      go_roundg (83 - (i + 1))
      case measure => omega
      case rel =>
        refine ⟨i + 1, by first | rfl | go_num, by omega, by omega, ?_, ?_⟩
        · rw [show (12353 : Int) + (6890529 + (i : Int) - 6890529) = 12353 + i by omega] at ho
          rw [kanaL_succ, ← List.append_assoc]
          exact ho
        · exact hb2
    · have hle : ¬ 6890529 + (i : Int) ≤ 6890611 := by omega
      obtain rfl : i = 83 := by omega
      go_wp2
      go_loopg [1, 3] 86 (fun g2 vo vi wr => ∃ (i : Nat), vi = .int .i64 (6890785 + (i : Int)) ∧ i ≤ 86 ∧ 86 - i ≤ g2 ∧ Aside (OwnC wr w.heap.size vo (signsL ++ othersL ++ kanaL 83 ++ kataL i) ∧ Below w.heap.size w wr))
      case atStart => exact ⟨0, rfl, by omega, by omega, by simpa [kataL] using HI.out.1, HI.out.2⟩
      case round =>
        clear HI
        obtain ⟨i, rfl, hi, hg1, HI⟩ := hrel
        by_cases hlt : i < 86
        · have hle : 6890785 + (i : Int) ≤ 6890870 := by omega
          go_wp2_with (at_builtin; refine append_code_at rfl _ _ rfl w.heap.size _ (signsL ++ othersL ++ kanaL 83 ++ kataL i) rfl (HI.out.1.alloc _) ⟨wr.heap.size, 0, none⟩ 1 1 [(_, _)] rfl rfl (one_code _ _ _ _ rfl) (by have := kanaL_len 83; have := kataL_len i; simp [signsL, othersL]; omega) (by have := HI.out.2.size; simp; omega) ?_; intro v' W3 ho hg hb _; have hb2 := (HI.out.2.alloc HI.out.2.size _).trans hb; clear hg hb)
          go_roundg (86 - (i + 1))
          case measure => omega
          case rel =>
            refine ⟨i + 1, by first | rfl | go_num, by omega, by omega, ?_, ?_⟩
            · rw [show (12449 : Int) + (6890785 + (i : Int) - 6890785) = 12449 + i by omega] at ho
              rw [kataL_succ, ← List.append_assoc]
              exact ho
            · exact hb2
        · have hle : ¬ 6890785 + (i : Int) ≤ 6890870 := by omega
          obtain rfl : i = 86 := by omega
          go_wp2
          generalize hS : ByteArray.mk (List.toArray _) = S
          obtain rfl : S = runesS := hS.symm.trans (by kernel_rfl)
          clear hS
          obtain ⟨IT, hIT⟩ : ∃ IT, IT = wr.heap.size := ⟨_, rfl⟩
          have hsz := HI.out.2.size
          have HJ : Aside (∃ (k : Nat), k = 0 ∧ OwnC (wr.iter runesS 0) w.heap.size u1 (signsL ++ othersL ++ kanaL 83 ++ kataL 86 ++ ideoL k) ∧ Below w.heap.size w (wr.iter runesS 0) ∧ IterAt (wr.iter runesS 0) IT k ∧ u1.ownBlock ≠ some IT) := by
            refine ⟨0, rfl, ?_, HI.out.2.alloc hsz _, ⟨by omega, by rw [hIT]; exact World.iter_heap wr runesS 0⟩, fun e => ?_⟩
            · rw [show ideoL 0 = [] from rfl, List.append_nil]
              exact HI.out.1.alloc (.stringIter runesS 0)
            · have := (HI.out.1.lt _ e).2
              omega
          have hIw : w.heap.size ≤ IT := by omega
          rw [← hIT]
          clear hIT HI
          go_loopg [1, 4] 175 (fun g3 vo vi wr => ∃ (k : Nat), vi = .int .i64 (k : Int) ∧ k ≤ 175 ∧ 175 - k ≤ g3 ∧ Aside (OwnC wr w.heap.size vo (signsL ++ othersL ++ kanaL 83 ++ kataL 86 ++ ideoL k) ∧ Below w.heap.size w wr ∧ IterAt wr IT k ∧ vo.ownBlock ≠ some IT))
          case atStart =>
            obtain ⟨k, rfl, h⟩ := HJ.out
            exact ⟨0, rfl, by omega, by omega, h⟩
          case round =>
            clear HJ
            obtain ⟨k, rfl, hk, hg3, HI⟩ := hrel
            by_cases hlt : k < 175
            · have hnx : ∀ ty, (Instr.next (.pointer (some ⟨IT, 0, none⟩)) true ty).run Tryz.prog wr = .ok (.tuple #[.bool true, .int .i64 ((3 * k : Nat) : Int), .int .i32 (runes.getD k 0)]) (wr.iterAt IT runesS (3 * (k + 1))) := fun ty => HI.out.2.2.1.next ty hlt
              have hg4 : wr.grownBy (wr.iterAt IT runesS (3 * (k + 1))) (some IT) := iterAt_grown wr IT k
              have HK : Aside (OwnC (wr.iterAt IT runesS (3 * (k + 1))) w.heap.size u1 (signsL ++ othersL ++ kanaL 83 ++ kataL 86 ++ ideoL k) ∧ Below w.heap.size w (wr.iterAt IT runesS (3 * (k + 1))) ∧ IterAt (wr.iterAt IT runesS (3 * (k + 1))) IT (k + 1) ∧ u1.ownBlock ≠ some IT) :=
                ⟨World.ownsRow.kept HI.out.1 hg4 (.inr HI.out.2.2.2), HI.out.2.1.grown hg4 HI.out.2.1.size fun j hj => by cases hj; exact hIw, HI.out.2.2.1.step hlt, HI.out.2.2.2⟩
              generalize wr.iterAt IT runesS (3 * (k + 1)) = W5 at hnx HK
              obtain ⟨rk, hrk⟩ : ∃ rk, rk = runes.getD k 0 := ⟨_, rfl⟩
              rw [← hrk] at hnx
              have HR : Aside (rk = runes.getD k 0) := hrk
              clear hrk
              clear HI hg4
              go_wp2_with (at_builtin; refine append_code_at rfl _ _ rfl w.heap.size _ (signsL ++ othersL ++ kanaL 83 ++ kataL 86 ++ ideoL k) rfl (HK.out.1.alloc _) ⟨W5.heap.size, 0, none⟩ 1 1 [(_, _)] rfl rfl (one_code _ _ _ _ rfl) (by have := kanaL_len 83; have := kataL_len 86; have := ideoL_len k; simp [signsL, othersL]; omega) (by have := HK.out.2.1.size; simp; omega) ?_; intro v' W6 ho hg hb hat)
              have HL : Aside (OwnC W6 w.heap.size v' (signsL ++ othersL ++ kanaL 83 ++ kataL 86 ++ ideoL (k + 1)) ∧ Below w.heap.size w W6 ∧ IterAt W6 IT (k + 1) ∧ v'.ownBlock ≠ some IT) := by
                obtain ⟨j1, j2, j3, j4⟩ := HK.out
                have hl := j3.lt
                refine ⟨?_, (j2.alloc j2.size _).trans hb, (j3.grown (World.grownBy_alloc W5 _ none) (by simp)).grown hg fun e => j4 e.symm, fun e => ?_⟩
                · rw [ideoL_succ, ← List.append_assoc, ← HR.out]
                  exact ho
                · rcases hat with h | h
                  · exact j4 (h.symm.trans e)
                  · rw [h] at e
                    injection e with e
                    simp at e
                    omega
              clear ho hg hb hat HK
              go_roundg (175 - (k + 1))
              case measure => omega
              case rel => exact ⟨k + 1, by first | rfl | go_num, by omega, by omega, HL⟩
            · have hnx : ∀ ty, (Instr.next (.pointer (some ⟨IT, 0, none⟩)) true ty).run Tryz.prog wr = .ok (.tuple #[.bool false]) wr := fun ty => HI.out.2.2.1.done ty hlt
              obtain rfl : k = 175 := by omega
              go_wp2
              go_ret
              exact ⟨_, rfl, HI.out.1, HI.out.2.1⟩
end Go.Proofs.YtemhfcgkfdklhaaGreatDoor.Look
