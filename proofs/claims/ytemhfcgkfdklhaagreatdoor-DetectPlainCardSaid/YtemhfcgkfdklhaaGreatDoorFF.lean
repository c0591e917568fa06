/- strings.FieldsFunc (f22) at unicode.IsSpace (f23), at every string. -/
import Derived.Shelf.RegionOpenPlain
import Derived.WalkKit
import Derived.Lib.OthersKept
import Derived.Lib.FieldsP
import Derived.Deep.LoopGhost
import Derived.Deep.CutBlock
import Derived.Deep.DeepCutAuto
import Derived.Laws.MakeOwn
import Derived.Laws.OwnMore
import Derived.Maps.AppendAt
import Derived.Deep.DeepMust
import Derived.Deep.DeepFit
import Derived.Laws.DeepStrings4
import Derived.Laws.DeepNot64
import Derived.Test.YtemhfcgkfdklhaaGreatDoorLay
set_option linter.unusedVariables false
namespace Go.Proofs.YtemhfcgkfdklhaaGreatDoor.FF
open Go Go.RowKit Go.Shelf Go.Lib Go.Proofs

/-- What a call leaves where it only makes blocks. -/
theorem grown_of_below {W W' : World} (h : Below W.heap.size W W') : W.grownBy W' none := ⟨h.os, h.tape, h.output, h.size, fun k hk _ => h.block k hk⟩

theorem iterRow {w : World} {B e size n : Nat} {v : Value} {xs : List Value} {k : Nat} {s : ByteArray} {pos : Nat} (h : w.ownsRow B e size v n xs) (hk : w.heap[k]? = some (.stringIter s pos)) : some k ≠ v.ownBlock := by
  rcases h.2 with ⟨rfl, _⟩ | ⟨g, cap, cur, rfl, _, hg, _⟩
  · simp [Value.ownBlock]
  · intro e
    simp only [Value.ownBlock, Option.some.injEq] at e
    subst e
    rw [hk] at hg
    cases hg
theorem iterAt_grown (w : World) (k : Nat) (s : ByteArray) (pos : Nat) : w.grownBy (w.iterAt k s pos) (some k) :=
  ⟨rfl, rfl, rfl, by rw [Lib.iterAt_size]; exact Nat.le_refl _, fun j _ hj => Lib.iterAt_other _ _ _ _ _ (fun e => hj (by rw [e]))⟩
theorem pairCells (w : World) (x y : Value) (t : TypeId) : ∀ j u, [x, y][j]? = some u → (w.alloc (.cells #[x, y] t)).cell? ((⟨w.heap.size, 0, none⟩ : Addr).add j) = some u := by
  intro j u hj
  match j, hj with
  | 0, hj => simp at hj; subst hj; simp [Addr.add]
  | 1, hj => simp at hj; subst hj; simp [Addr.add]
  | (j + 2), hj => simp at hj

/-- unicode.IsSpace at a rune. -/
theorem space (w W : World) (x : Nat) (hx : x ≤ 1114111) (hW : Lib.WhiteTab 1 w) (hb : Below w.heap.size w W) : Calls Tryz.prog 94 #[.int .i32 x] W fun e w' => e = .returned (.bool (Lib.isSpaceR x)) ∧ W.grownBy w' none := by
  have h := Tryz.unicode_IsSpace_any (x : Int) W (by omega) (by omega) (WhiteTab_below hW hb)
  rw [Lib.isSpaceZ_nat] at h
  exact h.mono fun e w' ⟨h1, h2⟩ => ⟨h1, grown_of_below h2⟩

theorem i57 : (Tryz.prog.info? 155).map (fun i => (i.zero, i.size, i.bytes)) = some (some (.agg #[.int .i64 0, .int .i64 0]), 2, 16) := by kernel_rfl
theorem i9 : (Tryz.prog.info? 9).map (fun i => (i.zero, i.size, i.bytes)) = some (some (.string ⟨#[]⟩), 1, 16) := by kernel_rfl

set_option maxHeartbeats 4000000 in
set_option maxRecDepth 1000000 in
theorem fieldsFunc (s : ByteArray) (w : World) (hs : s.size ≤ 4294967296) (hW : Lib.WhiteTab 1 w) :
    Calls Tryz.prog 93 #[.string s, .func (.func 94) #[] #[]] w fun e w' => ∃ A, e = .returned (.slice (some ⟨A, 0, none⟩) (Lib.goFieldsP Lib.isSpaceR s).length (Lib.goFieldsP Lib.isSpaceR s).length) ∧ w.heap.size ≤ A ∧
      w'.ownsRow w.heap.size 9 1 (.slice (some ⟨A, 0, none⟩) (Lib.goFieldsP Lib.isSpaceR s).length (Lib.goFieldsP Lib.isSpaceR s).length) (Lib.goFieldsP Lib.isSpaceR s).length ((Lib.goFieldsP Lib.isSpaceR s).map Value.string) ∧ Below w.heap.size w w' := by
  have hsp := fun W x hx hb => space w W x hx hW hb
  clear hW
  generalize Lib.isSpaceR = p at hsp ⊢
  obtain ⟨i0, hi, hz0, hz1, hz2⟩ := info_parts i57
  have t55 : Tryz.prog.underlying 153 = some (.slice 155) := by kernel_rfl
  have t38 : Tryz.prog.underlying 50 = some (.slice 9) := by kernel_rfl
  obtain ⟨W0, hmk, hown0, hg0⟩ := run_make_own (P := Tryz.prog) w w.heap.size 153 155 i0 _ 2 t55 hi hz0 hz1 .i64 .i64 32 (by rw [hz2]; decide) (by unfold maxLen; decide) (Nat.le_refl _)
  rw [show ((32 : Nat) : Int) = 32 from rfl] at hmk
  have hb0 : Below w.heap.size w W0 := (Below.refl _ w).grown hg0 (Nat.le_refl _) (fun k hk => by cases hk)
  rw [show goFieldsP p s = (spansOfP p s).map fun x => s.extract x.1 x.2 from rfl, List.length_map, List.map_map]
  go_enter Tryz.func93, Tryz.ntmps93
  go_wp2
  -- the runes: i bytes read, an open span at 'st' or none, the closed spans 'acc'
  go_loopg [5, 6] s.size (fun gf s5 s6 wx => ∃ (pos : Nat) (st : Option Nat) (acc : List (Nat × Nat)) (z : Int), s6 = .int .i64 z ∧ (match st with | none => z < 0 ∧ -9223372036854775808 ≤ z | some a => z = (a : Int) ∧ a < pos) ∧
      s.size ≤ pos + gf ∧ pos ≤ s.size ∧ acc.length ≤ pos ∧ (∀ x ∈ acc, x.1 ≤ x.2 ∧ x.2 ≤ s.size) ∧ s5 ≠ .slice none 0 0 ∧ spansFromP p s gf pos st acc = spansFromP p s s.size 0 none [] ∧
      wx.ownsRow w.heap.size 155 2 s5 acc.length (spanCells acc) ∧ wx.heap[W0.heap.size]? = some (.stringIter s pos) ∧ Below w.heap.size w wx)
  case atStart =>
    exact ⟨0, none, [], -1, rfl, ⟨by omega, by omega⟩, by omega, Nat.zero_le _, Nat.le_refl _, (fun x hx => by cases hx), (fun h => by cases h), rfl, hown0.alloc _, World.iter_heap W0 s 0, hb0.alloc hb0.size _⟩
  case round =>
    obtain ⟨pos, st, acc, z, rfl, hz, hfu, hps, hal, hok, hnn, hfold, hown, hit, hbw⟩ := hrel
    by_cases hlt : pos < s.size
    · obtain ⟨g', rfl⟩ : ∃ g', gk = g' + 1 := ⟨gk - 1, by omega⟩
      have hnx : ∀ ty, (Instr.next (.pointer (some ⟨W0.heap.size, 0, none⟩)) true ty).run Tryz.prog wr = _ := fun ty => Lib.run_next_any_at wr W0.heap.size s pos ty hit hlt
      have hwd := Lib.width_pos s pos
      have hwn : pos + (Utf8.decode s pos).2 ≤ s.size := by
        have := Lib.decodeN_le_n' (s.size - pos) (s.get! pos).toNat (s.get! (pos + 1)).toNat (s.get! (pos + 2)).toNat (s.get! (pos + 3)).toNat (by omega)
        rw [← Lib.decode_at] at this
        omega
      have hrl := Lib.rune_le s pos
      simp only [spansFromP, hlt, if_true] at hfold
      generalize hRK : Utf8.decode s pos = RK at hnx hwd hwn hrl hfold
      obtain ⟨R, K⟩ := RK
      simp only at hnx hwd hwn hrl hfold
      have hit2 := Lib.iterAt_heap wr W0.heap.size s pos (pos + K) hit
      have hbw2 := Lib.below_iterAt hbw (k := W0.heap.size) hb0.size s (pos + K)
      have hown2 := hown.kept (iterAt_grown wr W0.heap.size s (pos + K)) (.inr (iterRow hown hit).symm)
      generalize wr.iterAt W0.heap.size s (pos + K) = W at hnx hit2 hbw2 hown2
      have cS := hsp W R hrl hbw2
      clear hown hit hbw
      have next : ∀ {W' : World}, W.grownBy W' none → W'.ownsRow w.heap.size 155 2 u5 acc.length (spanCells acc) ∧ W'.heap[W0.heap.size]? = some (.stringIter s (pos + K)) ∧ Below w.heap.size w W' := fun hgw =>
        ⟨hown2.kept hgw (Classical.em _), (hgw.block W0.heap.size (Array.getElem?_eq_some_iff.1 hit2).1 (by simp)).trans hit2, hbw2.grown hgw hbw2.size (fun k hk => by cases hk)⟩
      cases hpr : p R <;> rw [hpr] at cS <;> simp only [hpr, if_true, Bool.false_eq_true, if_false] at hfold
      · cases st with
        | none =>
          obtain ⟨hz0', hzl⟩ := hz
          go_wp2_with (go_at_call 94; refine cS.mono ?_; rintro e W' ⟨rfl, hgw⟩)
          go_roundg g'
          case measure => omega
          case rel => exact ⟨pos + K, some pos, acc, pos, rfl, ⟨rfl, by omega⟩, by omega, hwn, by omega, hok, hnn, hfold, next hgw⟩
        | some a =>
          obtain ⟨rfl, hap⟩ := hz
          go_wp2_with (go_at_call 94; refine cS.mono ?_; rintro e W' ⟨rfl, hgw⟩)
          go_roundg g'
          case measure => omega
          case rel => exact ⟨pos + K, some a, acc, a, rfl, ⟨rfl, by omega⟩, by omega, hwn, by omega, hok, hnn, hfold, next hgw⟩
      · cases st with
        | none =>
          obtain ⟨hz0', hzl⟩ := hz
          go_wp2_with (go_at_call 94; refine cS.mono ?_; rintro e W' ⟨rfl, hgw⟩)
          go_roundg g'
          case measure => omega
          case rel => exact ⟨pos + K, none, acc, z, rfl, ⟨hz0', hzl⟩, by omega, hwn, by omega, hok, hnn, hfold, next hgw⟩
        | some a =>
          obtain ⟨rfl, hap⟩ := hz
          go_wp2_with (first
            | (go_at_call 94; refine cS.mono ?_; rintro e W' ⟨rfl, hgw⟩)
            | (at_builtin; go_must (refine wpList_append_own _ rfl (.tmp 24) (.tmp 28) 153 rfl w.heap.size 155 i0 (.agg #[.int .i64 0, .int .i64 0]) 2 16 t55 hi hz0 hz1 hz2 rfl (by decide) _ _ _ rfl ((next hgw).1.alloc _) ⟨W'.heap.size, 0, none⟩ 1 1 [.int .i64 (a : Int), .int .i64 (pos : Int)] rfl rfl (pairCells _ _ _ _) (by intro u hu; simp at hu; rcases hu with rfl | rfl <;> rfl) (by unfold maxLen; omega) (by omega) (by have := (next hgw).2.2.size; simp; omega) ?_; intro v3 w3 hown3 hgrow3 hnil3)))
          rw [i64_not a (by omega)]
          obtain ⟨n1, n2, n3⟩ := next hgw
          have hIT := (Array.getElem?_eq_some_iff.1 n2).1
          have hX := n1.alloc (.cells #[.int .i64 (a : Int), .int .i64 (pos : Int)] 155)
          go_roundg g'
          case measure => omega
          case rel =>
            refine ⟨pos + K, none, acc ++ [(a, pos)], -1 - (a : Int), rfl, ⟨by omega, by omega⟩, by omega, hwn, by simp; omega, ?_, (fun h => by have := (hnil3.1 h).2; omega), hfold, by rw [List.length_append, spanCells_snoc]; exact hown3, ?_, ?_⟩
            · intro x hx
              rcases List.mem_append.1 hx with h | h
              · exact hok x h
              · simp at h; subst h; exact ⟨by simp; omega, by simp; omega⟩
            · exact (hgrow3.block W0.heap.size (by simp; omega) (iterRow n1 n2)).trans ((Below.heap_alloc _ _ _ hIT).trans n2)
            · exact (n3.alloc n3.size _).grown hgrow3 (by have := n3.size; simp; omega) (fun j hj => (hX.lt j hj).1)
    · -- behind the runes
      obtain rfl : pos = s.size := by omega
      have hnx : ∀ ty, (Instr.next (.pointer (some ⟨W0.heap.size, 0, none⟩)) true ty).run Tryz.prog wr = _ := fun ty => Lib.run_next_end_at wr W0.heap.size s s.size ty hit hlt
      rw [spansFromP_end p s gk _ _ _ hlt] at hfold
      have hSP : spansOfP p s = closeSpans s (acc, st) := by unfold spansOfP; rw [← hfold]
      have hokS : (∀ x ∈ spansOfP p s, x.1 ≤ x.2 ∧ x.2 ≤ s.size) ∧ (spansOfP p s).length ≤ s.size + 1 := by
        rw [hSP]
        cases st with
        | none => exact ⟨hok, Nat.le_succ_of_le hal⟩
        | some a =>
          obtain ⟨_, hap⟩ := hz
          refine ⟨fun x hx => ?_, by show (acc ++ [(a, s.size)]).length ≤ _; simp; omega⟩
          rcases List.mem_append.1 hx with h | h
          · exact hok x h
          · simp at h; subst h; exact ⟨by simp; omega, by simp⟩
      clear hsp
      go_upto_if 36 with fail
      go_cut [5] (fun s5 wx => wx.ownsRow w.heap.size 155 2 s5 (spansOfP p s).length (spanCells (spansOfP p s)) ∧ Below w.heap.size w wx ∧ s5 ≠ .slice none 0 0)
      case first =>
        cases st with
        | none =>
          obtain ⟨hz0', hzl⟩ := hz
          go_wp2_with fail
          go_meet
          exact ⟨by rw [hSP]; exact hown, hbw, hnn⟩
        | some a =>
          obtain ⟨rfl, hap⟩ := hz
          go_wp2_with (at_builtin; go_must (refine wpList_append_own _ rfl (.tmp 37) (.tmp 42) 153 rfl w.heap.size 155 i0 (.agg #[.int .i64 0, .int .i64 0]) 2 16 t55 hi hz0 hz1 hz2 rfl (by decide) _ _ _ rfl (hown.alloc _) ⟨wr.heap.size, 0, none⟩ 1 1 [.int .i64 (a : Int), .int .i64 (s.size : Int)] rfl rfl (pairCells _ _ _ _) (by intro u hu; simp at hu; rcases hu with rfl | rfl <;> rfl) (by unfold maxLen; omega) (by omega) (by have := hbw.size; simp; omega) ?_; intro v3 w3 hown3 hgrow3 hnil3))
          go_wp2_with fail
          go_meet
          have hX := hown.alloc (.cells #[.int .i64 (a : Int), .int .i64 (s.size : Int)] 155)
          exact ⟨by rw [hSP]; show w3.ownsRow _ _ _ _ (acc ++ [(a, s.size)]).length (spanCells (acc ++ [(a, s.size)])); rw [List.length_append, spanCells_snoc]; exact hown3,
            (hbw.alloc hbw.size _).grown hgrow3 (by have := hbw.size; simp; omega) (fun j hj => (hX.lt j hj).1), fun h => by have := (hnil3.1 h).2; omega⟩
      case rest =>
        obtain ⟨hownS, hbS, hnnS⟩ := hcut
        obtain ⟨hokS, hlenS⟩ := hokS
        clear hSP hfold hown hit hbw hok hnn hz
        obtain ⟨SP, eSP⟩ : ∃ SP, spansOfP p s = SP := ⟨_, rfl⟩
        rw [eSP] at hownS hokS hlenS
        obtain ⟨g5, cap5, rfl⟩ : ∃ g5 cap5, u5 = .slice (some ⟨g5, 0, none⟩) SP.length cap5 := by
          rcases hownS.2 with ⟨h, _⟩ | ⟨g5, cap5, _, h, _⟩
          · exact absurd h hnnS
          · exact ⟨g5, cap5, h⟩
        have hg5 : g5 < wc.heap.size := (hownS.lt g5 rfl).2
        obtain ⟨i9', hi9', hz90, hz91, hz92⟩ := info_parts i9
        obtain ⟨W5, hmk5, hown5, hgr5⟩ := run_make_full (P := Tryz.prog) wc w.heap.size 50 9 i9' _ 1 t38 hi9' hz90 hz91 .i64 .i64 SP.length (by rw [hz92]; omega) (by unfold maxLen; omega) hbS.size
        have hS5 := hownS.kept hgr5 (Classical.em _)
        have hb5 : Below w.heap.size w W5 := hbS.grown hgr5 hbS.size (fun k hk => by cases hk)
        rw [show (Value.string ⟨#[]⟩).cells = #[Value.string ⟨#[]⟩] from rfl, Nat.mul_one, toList_madeCells_one, ← rowAt_zero s SP] at hown5
        go_wp2
        go_loopg [49] SP.length (fun gf s49 wx => ∃ i : Nat, i + gf = SP.length ∧ s49 = .int .i64 i ∧ wx.ownsRow w.heap.size 9 1 (.slice (some ⟨wc.heap.size, 0, none⟩) SP.length SP.length) SP.length (Lib.rowAt s SP i) ∧
          wx.ownsRow w.heap.size 155 2 (.slice (some ⟨g5, 0, none⟩) SP.length cap5) SP.length (spanCells SP) ∧ Below w.heap.size w wx)
        case atStart => exact ⟨0, by omega, rfl, hown5, hS5, hb5⟩
        case round =>
          obtain ⟨i, hig, rfl, hA, hS, hbr⟩ := hrel
          cases gk with
          | zero =>
            have hin : ¬ ((i : Int) < (SP.length : Int)) := by omega
            obtain rfl : i = SP.length := by omega
            go_wp2
            go_ret
            rw [rowAt_all] at hA
            subst eSP
            exact ⟨wc.heap.size, rfl, hbS.size, hA, hbr⟩
          | succ gf =>
            have hin : (i : Int) < (SP.length : Int) := by omega
            obtain ⟨x, hx⟩ : ∃ x, SP[i]? = some x := ⟨_, List.getElem?_eq_getElem (by omega)⟩
            have hxo := hokS x (List.mem_of_getElem? hx)
            have hc0 : wr.cell? ⟨g5, i * 2, none⟩ = some (.int .i64 x.1) := (hS.cellAt (i * 2) (by omega)).trans (spanCells_at SP i x hx).1
            have hc1 : wr.cell? ⟨g5, i * 2 + 1, none⟩ = some (.int .i64 x.2) := (hS.cellAt (i * 2 + 1) (by omega)).trans (spanCells_at SP i x hx).2
            have hA' := hA.alloc (.cells #[.int .i64 (x.1 : Int), .int .i64 (x.2 : Int)] 155)
            have hS' := hS.alloc (.cells #[.int .i64 (x.1 : Int), .int .i64 (x.2 : Int)] 155)
            obtain ⟨old, hold⟩ : ∃ old, (Lib.rowAt s SP i)[i]? = some old := ⟨_, List.getElem?_eq_getElem (by have := hA.1; omega)⟩
            have hcA := (hA'.cellAt i (by omega)).trans hold
            have hfA := hA'.frozenAt i
            go_wp2
            go_roundg gf
            case measure => omega
            case rel =>
              have hst' := hA'.stored i (.string (s.extract x.1 x.2))
              rw [rowAt_set s SP i x hx] at hst'
              exact ⟨i + 1, by omega, by go_num, hst'.1, hS'.kept hst'.2 (by simp [Value.ownBlock]; omega), (hbr.alloc hbr.size _).grown hst'.2 (by have := hbr.size; simp; omega) (fun k hk => by cases hk; exact hbS.size)⟩
end Go.Proofs.YtemhfcgkfdklhaaGreatDoor.FF
