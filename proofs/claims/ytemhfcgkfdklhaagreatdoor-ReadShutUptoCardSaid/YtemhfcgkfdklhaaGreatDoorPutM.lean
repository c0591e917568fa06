/- (*reader).put of a mark. -/
import Derived.Test.YtemhfcgkfdklhaaGreatDoorRdr
set_option linter.unusedVariables false
namespace Go.Proofs.YtemhfcgkfdklhaaGreatDoor.Look
open Go Go.RowKit Go.Shelf Go.Proofs Go.Proofs.YtemhfcgkfdklhaaGreatDoor.Rd

/-- What put leaves. -/
structure PutOk (wr W : World) (rb lim : Nat) (xp bs : Value) (s' : RS) (W' : World) : Prop where
  ra : RA wr W' rb W'.heap.size xp bs s'
  below : Below rb W W'
  keep : ∀ k, lim ≤ k → k < W.heap.size → k ≠ rb → W'.heap[k]? = W.heap[k]?
theorem heap_put {w : World} {b i k : Nat} {u : Value} (h : k ≠ b) : (w.setCell ⟨b, i, none⟩ u).heap[k]? = w.heap[k]? := Below.heap_setCell _ _ _ _ h
theorem putM_end {wr W U W3 : World} {rb lim : Nat} {xp bs vo vm v' : Value} {s : RS} {wh : Int} {r : Int} {n : Nat} {o : Obj} (hU : RC U rb (RV xp bs { s with wh := wh } vo vm)) (hbU : Below rb wr U) (hbW : Below rb W U)
    (h2 : OwnR U (rb + 1) vo s.out) (h3 : OwnR U (rb + 1) vm s.marks) (h4 : vo.ownBlock = none ∨ vo.ownBlock ≠ vm.ownBlock) (h5 : ∀ g, vo.ownBlock = some g → g < lim) (h6 : ∀ g, vm.ownBlock = some g → g < lim) (hlim : lim ≤ W.heap.size)
    (hUW : ∀ k, k < W.heap.size → k ≠ rb → U.heap[k]? = W.heap[k]?) (ho : OwnR W3 (rb + 1) v' (s.marks ++ [r])) (hg : (U.alloc o).grownBy W3 vm.ownBlock) (hat : v'.ownBlock = vm.ownBlock ∨ v'.ownBlock = some (U.alloc o).heap.size) :
    PutOk wr W rb lim xp bs { s with pos := s.pos + n, marks := s.marks ++ [r], wh := wh } ((W3.setCell ⟨rb, 6, none⟩ v').setCell ⟨rb, 2, none⟩ (.int .i64 ((s.pos + n : Nat) : Int))) := by
  have hne : some rb ≠ vm.ownBlock := fun e => by have := (h3.lt rb e.symm).1; omega
  have hg1 : U.grownBy W3 vm.ownBlock := (World.grownBy_alloc U o _).trans hg
  have hC := ((hU.grown hg1 hne).put 6 v').put 2 (.int .i64 ((s.pos + n : Nat) : Int))
  have hrow : ∀ k, vm.ownBlock = some k → rb ≤ k := fun k hk => by have := (h3.lt k hk).1; omega
  have hb1 : Below rb U W3 := (Below.refl _ _).grown hg1 (Nat.le_of_lt hU.lt) hrow
  have hb2 : Below rb U ((W3.setCell ⟨rb, 6, none⟩ v').setCell ⟨rb, 2, none⟩ (.int .i64 ((s.pos + n : Nat) : Int))) := (hb1.setCell (p := ⟨rb, 6, none⟩) (Nat.le_refl _) _).setCell (p := ⟨rb, 2, none⟩) (Nat.le_refl _) _
  have hsz : ((W3.setCell ⟨rb, 6, none⟩ v').setCell ⟨rb, 2, none⟩ (.int .i64 ((s.pos + n : Nat) : Int))).heap.size = W3.heap.size := by simp
  have hUs := hg1.size
  have hWU := hbW.size
  refine ⟨⟨⟨vo, v', hC, ?_, ?_, ?_, fun g hgo => ?_, fun g hgv => ?_⟩, hbU.trans hb2⟩, hbW.trans hb2, fun k h1 h2' h3' => ?_⟩
  · have hvo : OwnR W3 (rb + 1) vo s.out := World.ownsRow.kept h2 hg1 h4
    exact (hvo.put (Nat.lt_succ_self rb) _).put (Nat.lt_succ_self rb) _
  · exact (ho.put (Nat.lt_succ_self rb) _).put (Nat.lt_succ_self rb) _
  · rcases h4 with h | h
    · exact .inl h
    · rcases hat with h' | h'
      · rw [h']; exact .inr h
      · rw [h']
        refine .inr fun e => ?_
        have := (h2.lt _ e).2
        simp at this
        omega
  · rw [hsz]; have := (h2.lt g hgo).2; omega
  · rw [hsz]; exact (ho.lt g hgv).2
  · rw [heap_put h3', heap_put h3', hg1.block k (by omega) fun e => by have := h6 k e.symm; omega]
    exact hUW k h2' h3'

set_option maxHeartbeats 8000000 in
set_option maxRecDepth 100000 in
theorem cPutM (wr W : World) (rb lim : Nat) (xp bs : Value) (s : RS) (r : Int) (n : Nat) (h : RA wr W rb lim xp bs s) (hlim : lim ≤ W.heap.size) (hm : markV r = true) (hn : n ≤ 3) (hb1 : s.marks.length ≤ 2000000) (hb2 : s.pos ≤ 2000000) :
    Calls Tryz.prog 48 #[.pointer (some ⟨rb, 0, none⟩), .int .i32 r, .int .i64 n] W fun e W' => e = .returned (.tuple #[]) ∧ PutOk wr W rb lim xp bs (putS markV s r n) W' := by
  have hput : putS markV s r n = { s with pos := s.pos + n, marks := s.marks ++ [r], wh := if s.marks = [] then (s.pos : Int) else s.wh } := by unfold putS; rw [if_pos hm]
  rw [hput]
  clear hput
  have cM := mark r W
  rw [hm] at cM
  obtain ⟨⟨vo, vm, h1, h2, h3, h4, h5, h6⟩, hbl⟩ := h
  obtain ⟨am, cm, rfl⟩ := h3.form
  obtain ⟨M, hM⟩ : ∃ M, M = s.marks.length := ⟨_, rfl⟩
  rw [← hM] at h1 h3 h4 h6 hb1
  have c1 : Calls Tryz.prog 66 #[.int .i32 r] W fun e W1 => e = .returned (.bool true) ∧ W1.cell? ⟨rb, 2, none⟩ = some (.int .i64 (s.pos : Int)) ∧ W1.cell? ⟨rb, 6, none⟩ = some (.slice am M cm) ∧ W1.cell? ⟨rb, 7, none⟩ = some (.int .i64 s.wh) ∧ (∀ k, W1.frozen? ⟨rb, k, none⟩ = false) ∧ rb < W1.heap.size ∧
      Aside (Below W.heap.size W W1 ∧ RC W1 rb (RV xp bs s vo (.slice am M cm)) ∧ OwnR W1 (rb + 1) vo s.out ∧ OwnR W1 (rb + 1) (.slice am M cm) s.marks) := by
    refine cM.mono ?_
    rintro e W1 ⟨rfl, hb⟩
    have hC := h1.below hb h1.lt
    exact ⟨rfl, hC.cell 2 _ rfl, hC.cell 6 _ rfl, hC.cell 7 _ rfl, hC.free, hC.lt, hb, hC, h2.below hb, h3.below hb⟩
  have HC := Lib.hid c1
  have HX : Aside (Below rb wr W ∧ (vo.ownBlock = none ∨ vo.ownBlock ≠ (Value.slice am M cm).ownBlock) ∧ (∀ g, vo.ownBlock = some g → g < lim) ∧ (∀ g, (Value.slice am M cm).ownBlock = some g → g < lim) ∧ lim ≤ W.heap.size ∧ rb < W.heap.size ∧ s.marks.length ≤ 2000000 ∧ some rb ≠ (Value.slice am M cm).ownBlock) :=
    ⟨hbl, h4, h5, h6, hlim, h1.lt, by rw [← hM]; exact hb1, fun e => by have := (h3.lt rb e.symm).1; omega⟩
  clear c1 cM h1 h2 h3 h4 h5 h6 hbl hlim hb1
  by_cases hz : s.marks = []
  · rw [if_pos hz]
    obtain rfl : M = 0 := by rw [hM, hz]; rfl
    clear hM hz
    go_enter Tryz.func48, Tryz.ntmps48
    go_wp2_with (first
      | (at_builtin; refine append_run_at rfl _ _ rfl (rb + 1) _ s.marks rfl ((hA.out.2.2.2.put (Nat.lt_succ_self rb) _).alloc _) ⟨W1.heap.size, 0, none⟩ 1 1 [r] rfl rfl (one_rune _ _ r (by simp)) (by have := HX.out.2.2.2.2.2.2.1; simp; omega) (by simp; omega) ?_; intro v' W3 ho hg hat; obtain ⟨av, cv, rfl⟩ := ho.form; have hC3 := (hA.out.2.1.put 7 (.int .i64 (s.pos : Int))).grown ((World.grownBy_alloc _ _ _).trans hg) HX.out.2.2.2.2.2.2.2; have k2 := hC3.cell 2 _ rfl; have k6 := hC3.cell 6 _ rfl; have kf := hC3.free; have kl := hC3.lt; have HG : Aside ((((W1.setCell ⟨rb, 7, none⟩ (.int .i64 (s.pos : Int))).alloc (.cells #[.int .i32 r] 21)).grownBy W3 (Value.slice am 0 cm).ownBlock) ∧ ((Value.slice av (s.marks ++ [r]).length cv).ownBlock = (Value.slice am 0 cm).ownBlock ∨ (Value.slice av (s.marks ++ [r]).length cv).ownBlock = some ((W1.setCell ⟨rb, 7, none⟩ (.int .i64 (s.pos : Int))).alloc (.cells #[.int .i32 r] 21)).heap.size) ∧ OwnR W3 (rb + 1) (Value.slice av (s.marks ++ [r]).length cv) (s.marks ++ [r])) := ⟨hg, hat, ho⟩; clear hg hat hC3 ho)
      | (go_at_call 66; refine HC.out.mono ?_; rintro e W1 ⟨rfl, g2, g6, g7, gf, gl, hA⟩; clear HC))
    go_end0
    obtain ⟨a1, a2, a3, a4⟩ := hA.out
    obtain ⟨x1, x2, x3, x4, x5, x6, x7, x8⟩ := HX.out
    obtain ⟨q1, q2, q3⟩ := HG.out
    rw [show (s.marks ++ [r]).length = s.marks.length + 1 by simp] at q2 q3
    have hbU : Below rb W (W1.setCell ⟨rb, 7, none⟩ (.int .i64 (s.pos : Int))) := (a1.mono (Nat.le_of_lt x6)).setCell (p := ⟨rb, 7, none⟩) (Nat.le_refl _) _
    exact ⟨rfl, putM_end (a2.put 7 (.int .i64 (s.pos : Int))) (x1.trans hbU) hbU (a3.put (Nat.lt_succ_self rb) _) (a4.put (Nat.lt_succ_self rb) _) x2 x3 x4 x5 (fun k hk hne => (heap_put hne).trans (a1.block k hk)) q3 q1 q2⟩
  · rw [if_neg hz]
    have hMz : ¬ (M : Int) = 0 := by
      have := List.length_pos_iff.2 hz
      omega
    have hMb : ((M : Int) == 0) = false := by simpa using hMz
    have hMn : ¬ M = 0 := by omega
    have hMc : (M == 0) = false := by simpa using hMn
    have HM : Aside (M ≤ 2000000) := by rw [hM]; exact HX.out.2.2.2.2.2.2.1
    clear hM hz
    go_enter Tryz.func48, Tryz.ntmps48
    go_wp2_with (first
      | (at_builtin; refine append_run_at rfl _ _ rfl (rb + 1) _ s.marks rfl (hA.out.2.2.2.alloc _) ⟨W1.heap.size, 0, none⟩ 1 1 [r] rfl rfl (one_rune _ _ r rfl) (by have := HX.out.2.2.2.2.2.2.1; simp; omega) (by simp; omega) ?_; intro v' W3 ho hg hat; obtain ⟨av, cv, rfl⟩ := ho.form; have hC3 := hA.out.2.1.grown ((World.grownBy_alloc _ _ _).trans hg) HX.out.2.2.2.2.2.2.2; have k2 := hC3.cell 2 _ rfl; have k6 := hC3.cell 6 _ rfl; have kf := hC3.free; have kl := hC3.lt; have HG : Aside (((W1.alloc (.cells #[.int .i32 r] 21)).grownBy W3 (Value.slice am M cm).ownBlock) ∧ ((Value.slice av (s.marks ++ [r]).length cv).ownBlock = (Value.slice am M cm).ownBlock ∨ (Value.slice av (s.marks ++ [r]).length cv).ownBlock = some (W1.alloc (.cells #[.int .i32 r] 21)).heap.size) ∧ OwnR W3 (rb + 1) (Value.slice av (s.marks ++ [r]).length cv) (s.marks ++ [r])) := ⟨hg, hat, ho⟩; clear hg hat hC3 ho)
      | (go_at_call 66; refine HC.out.mono ?_; rintro e W1 ⟨rfl, g2, g6, g7, gf, gl, hA⟩; clear HC))
    go_end0
    obtain ⟨a1, a2, a3, a4⟩ := hA.out
    obtain ⟨x1, x2, x3, x4, x5, x6, x7, x8⟩ := HX.out
    obtain ⟨q1, q2, q3⟩ := HG.out
    rw [show (s.marks ++ [r]).length = s.marks.length + 1 by simp] at q2 q3
    have hbU : Below rb W W1 := a1.mono (Nat.le_of_lt x6)
    exact ⟨rfl, putM_end (s := s) (wh := s.wh) a2 (x1.trans hbU) hbU a3 a4 x2 x3 x4 x5 (fun k hk hne => a1.block k hk) q3 q1 q2⟩
end Go.Proofs.YtemhfcgkfdklhaaGreatDoor.Look
