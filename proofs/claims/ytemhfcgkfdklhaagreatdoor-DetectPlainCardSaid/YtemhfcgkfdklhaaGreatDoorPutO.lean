/- (*reader).put of a character that is no mark. -/
import Derived.Test.YtemhfcgkfdklhaaGreatDoorRdr
import Derived.Laws.AppendOwnNone
set_option linter.unusedVariables false
namespace Go.Proofs.YtemhfcgkfdklhaaGreatDoor.Look
open Go Go.RowKit Go.Shelf Go.Proofs Go.Proofs.YtemhfcgkfdklhaaGreatDoor.Rd

/-- What put leaves. -/
structure PutOk (wr W : World) (rb lim : Nat) (xp bs : Value) (s' : RS) (W' : World) : Prop where
  ra : RA wr W' rb W'.heap.size xp bs s'
  below : Below rb W W'
  keep : ∀ k, lim ≤ k → k < W.heap.size → k ≠ rb → W'.heap[k]? = W.heap[k]?
theorem heap_put {w : World} {b i k : Nat} {u : Value} (h : k ≠ b) : (w.setCell ⟨b, i, none⟩ u).heap[k]? = w.heap[k]? := Below.heap_setCell _ _ _ _ h
theorem putM_end {wr W U W3 : World} {rb lim : Nat} {xp bs vo vm v' : Value} {s : RS} {wh : Int} {r : Int} {n : Nat} {o : Obj} (hU : RC U rb (RV xp bs { s with wh := wh } vo vm)) (hbU : Below rb wr U) (hbW : Below rb W U)
    (h2 : OwnR U (rb + 1) vo s.out) (h3 : OwnR U (rb + 1) vm s.marks) (h4 : vo.ownBlock = none ∨ vo.ownBlock ≠ vm.ownBlock) (h5 : ∀ g, vo.ownBlock = some g → g < lim) (h6 : ∀ g, vm.ownBlock = some g → g < lim) (hlim : lim ≤ W.heap.size)
    (hUW : ∀ k, k < W.heap.size → k ≠ rb → U.heap[k]? = W.heap[k]?) (ho : OwnR W3 (rb + 1) v' (s.marks ++ [r])) (hg : (U.alloc o).grownBy W3 vm.ownBlock) (hat : v'.ownBlock = vm.ownBlock ∨ v'.ownBlock = some (U.alloc o).heap.size) :
    PutOk wr W rb lim xp bs { s with pos := s.pos + n, marks := s.marks ++ [r], wh := wh } ((W3.setCell ⟨rb, 6, none⟩ v').setCell ⟨rb, 2, none⟩ (.int .i64 ((s.pos + n : Nat) : Int))) := by
  have hne : some rb ≠ vm.ownBlock := fun e => by have := (h3.lt rb e.symm).1; omega
  have hg1 : U.grownBy W3 vm.ownBlock := (World.grownBy_alloc U o _).trans hg
  have hC := ((hU.grown hg1 hne).put 6 v').put 2 (.int .i64 ((s.pos + n : Nat) : Int))
  have hrow : ∀ k, vm.ownBlock = some k → rb ≤ k := fun k hk => by have := (h3.lt k hk).1; omega
  have hb1 : Below rb U W3 := (Below.refl _ _).grown hg1 (Nat.le_of_lt hU.lt) hrow
  have hb2 : Below rb U ((W3.setCell ⟨rb, 6, none⟩ v').setCell ⟨rb, 2, none⟩ (.int .i64 ((s.pos + n : Nat) : Int))) := (hb1.setCell (p := ⟨rb, 6, none⟩) (Nat.le_refl _) _).setCell (p := ⟨rb, 2, none⟩) (Nat.le_refl _) _
  have hsz : ((W3.setCell ⟨rb, 6, none⟩ v').setCell ⟨rb, 2, none⟩ (.int .i64 ((s.pos + n : Nat) : Int))).heap.size = W3.heap.size := by simp
  have hUs := hg1.size
  have hWU := hbW.size
  refine ⟨⟨⟨vo, v', hC, ?_, ?_, ?_, fun g hgo => ?_, fun g hgv => ?_⟩, hbU.trans hb2⟩, hbW.trans hb2, fun k h1 h2' h3' => ?_⟩
  · have hvo : OwnR W3 (rb + 1) vo s.out := World.ownsRow.kept h2 hg1 h4
    exact (hvo.put (Nat.lt_succ_self rb) _).put (Nat.lt_succ_self rb) _
  · exact (ho.put (Nat.lt_succ_self rb) _).put (Nat.lt_succ_self rb) _
  · rcases h4 with h | h
    · exact .inl h
    · rcases hat with h' | h'
      · rw [h']; exact .inr h
      · rw [h']
        refine .inr fun e => ?_
        have := (h2.lt _ e).2
        simp at this
        omega
  · rw [hsz]; have := (h2.lt g hgo).2; omega
  · rw [hsz]; exact (ho.lt g hgv).2
  · rw [heap_put h3', heap_put h3', hg1.block k (by omega) fun e => by have := h6 k e.symm; omega]
    exact hUW k h2' h3'

set_option maxHeartbeats 8000000 in
set_option maxRecDepth 100000 in
theorem cPutM (wr W : World) (rb lim : Nat) (xp bs : Value) (s : RS) (r : Int) (n : Nat) (h : RA wr W rb lim xp bs s) (hlim : lim ≤ W.heap.size) (hm : markV r = true) (hn : n ≤ 3) (hb1 : s.marks.length ≤ 2000000) (hb2 : s.pos ≤ 2000000) :
    Calls Tryz.prog 48 #[.pointer (some ⟨rb, 0, none⟩), .int .i32 r, .int .i64 n] W fun e W' => e = .returned (.tuple #[]) ∧ PutOk wr W rb lim xp bs (putS markV s r n) W' := by
  have hput : putS markV s r n = { s with pos := s.pos + n, marks := s.marks ++ [r], wh := if s.marks = [] then (s.pos : Int) else s.wh } := by unfold putS; rw [if_pos hm]
  rw [hput]
  clear hput
  have cM := mark r W
  rw [hm] at cM
  obtain ⟨⟨vo, vm, h1, h2, h3, h4, h5, h6⟩, hbl⟩ := h
  obtain ⟨am, cm, rfl⟩ := h3.form
  obtain ⟨M, hM⟩ : ∃ M, M = s.marks.length := ⟨_, rfl⟩
  rw [← hM] at h1 h3 h4 h6 hb1
  have c1 : Calls Tryz.prog 66 #[.int .i32 r] W fun e W1 => e = .returned (.bool true) ∧ W1.cell? ⟨rb, 2, none⟩ = some (.int .i64 (s.pos : Int)) ∧ W1.cell? ⟨rb, 6, none⟩ = some (.slice am M cm) ∧ W1.cell? ⟨rb, 7, none⟩ = some (.int .i64 s.wh) ∧ (∀ k, W1.frozen? ⟨rb, k, none⟩ = false) ∧ rb < W1.heap.size ∧
      Aside (Below W.heap.size W W1 ∧ RC W1 rb (RV xp bs s vo (.slice am M cm)) ∧ OwnR W1 (rb + 1) vo s.out ∧ OwnR W1 (rb + 1) (.slice am M cm) s.marks) := by
    refine cM.mono ?_
    rintro e W1 ⟨rfl, hb⟩
    have hC := h1.below hb h1.lt
    exact ⟨rfl, hC.cell 2 _ rfl, hC.cell 6 _ rfl, hC.cell 7 _ rfl, hC.free, hC.lt, hb, hC, h2.below hb, h3.below hb⟩
  have HC := Lib.hid c1
  have HX : Aside (Below rb wr W ∧ (vo.ownBlock = none ∨ vo.ownBlock ≠ (Value.slice am M cm).ownBlock) ∧ (∀ g, vo.ownBlock = some g → g < lim) ∧ (∀ g, (Value.slice am M cm).ownBlock = some g → g < lim) ∧ lim ≤ W.heap.size ∧ rb < W.heap.size ∧ s.marks.length ≤ 2000000 ∧ some rb ≠ (Value.slice am M cm).ownBlock) :=
    ⟨hbl, h4, h5, h6, hlim, h1.lt, by rw [← hM]; exact hb1, fun e => by have := (h3.lt rb e.symm).1; omega⟩
  clear c1 cM h1 h2 h3 h4 h5 h6 hbl hlim hb1
  by_cases hz : s.marks = []
  · rw [if_pos hz]
    obtain rfl : M = 0 := by rw [hM, hz]; rfl
    clear hM hz
    go_enter Tryz.func48, Tryz.ntmps48
    go_wp2_with (first
      | (at_builtin; refine append_run_at rfl _ _ rfl (rb + 1) _ s.marks rfl ((hA.out.2.2.2.put (Nat.lt_succ_self rb) _).alloc _) ⟨W1.heap.size, 0, none⟩ 1 1 [r] rfl rfl (one_rune _ _ r (by simp)) (by have := HX.out.2.2.2.2.2.2.1; simp; omega) (by simp; omega) ?_; intro v' W3 ho hg hat; obtain ⟨av, cv, rfl⟩ := ho.form; have hC3 := (hA.out.2.1.put 7 (.int .i64 (s.pos : Int))).grown ((World.grownBy_alloc _ _ _).trans hg) HX.out.2.2.2.2.2.2.2; have k2 := hC3.cell 2 _ rfl; have k6 := hC3.cell 6 _ rfl; have kf := hC3.free; have kl := hC3.lt; have HG : Aside ((((W1.setCell ⟨rb, 7, none⟩ (.int .i64 (s.pos : Int))).alloc (.cells #[.int .i32 r] 21)).grownBy W3 (Value.slice am 0 cm).ownBlock) ∧ ((Value.slice av (s.marks ++ [r]).length cv).ownBlock = (Value.slice am 0 cm).ownBlock ∨ (Value.slice av (s.marks ++ [r]).length cv).ownBlock = some ((W1.setCell ⟨rb, 7, none⟩ (.int .i64 (s.pos : Int))).alloc (.cells #[.int .i32 r] 21)).heap.size) ∧ OwnR W3 (rb + 1) (Value.slice av (s.marks ++ [r]).length cv) (s.marks ++ [r])) := ⟨hg, hat, ho⟩; clear hg hat hC3 ho)
      | (go_at_call 66; refine HC.out.mono ?_; rintro e W1 ⟨rfl, g2, g6, g7, gf, gl, hA⟩; clear HC))
    go_end0
    obtain ⟨a1, a2, a3, a4⟩ := hA.out
    obtain ⟨x1, x2, x3, x4, x5, x6, x7, x8⟩ := HX.out
    obtain ⟨q1, q2, q3⟩ := HG.out
    rw [show (s.marks ++ [r]).length = s.marks.length + 1 by simp] at q2 q3
    have hbU : Below rb W (W1.setCell ⟨rb, 7, none⟩ (.int .i64 (s.pos : Int))) := (a1.mono (Nat.le_of_lt x6)).setCell (p := ⟨rb, 7, none⟩) (Nat.le_refl _) _
    exact ⟨rfl, putM_end (a2.put 7 (.int .i64 (s.pos : Int))) (x1.trans hbU) hbU (a3.put (Nat.lt_succ_self rb) _) (a4.put (Nat.lt_succ_self rb) _) x2 x3 x4 x5 (fun k hk hne => (heap_put hne).trans (a1.block k hk)) q3 q1 q2⟩
  · rw [if_neg hz]
    have hMz : ¬ (M : Int) = 0 := by
      have := List.length_pos_iff.2 hz
      omega
    have hMb : ((M : Int) == 0) = false := by simpa using hMz
    have hMn : ¬ M = 0 := by omega
    have hMc : (M == 0) = false := by simpa using hMn
    have HM : Aside (M ≤ 2000000) := by rw [hM]; exact HX.out.2.2.2.2.2.2.1
    clear hM hz
    go_enter Tryz.func48, Tryz.ntmps48
    go_wp2_with (first
      | (at_builtin; refine append_run_at rfl _ _ rfl (rb + 1) _ s.marks rfl (hA.out.2.2.2.alloc _) ⟨W1.heap.size, 0, none⟩ 1 1 [r] rfl rfl (one_rune _ _ r rfl) (by have := HX.out.2.2.2.2.2.2.1; simp; omega) (by simp; omega) ?_; intro v' W3 ho hg hat; obtain ⟨av, cv, rfl⟩ := ho.form; have hC3 := hA.out.2.1.grown ((World.grownBy_alloc _ _ _).trans hg) HX.out.2.2.2.2.2.2.2; have k2 := hC3.cell 2 _ rfl; have k6 := hC3.cell 6 _ rfl; have kf := hC3.free; have kl := hC3.lt; have HG : Aside (((W1.alloc (.cells #[.int .i32 r] 21)).grownBy W3 (Value.slice am M cm).ownBlock) ∧ ((Value.slice av (s.marks ++ [r]).length cv).ownBlock = (Value.slice am M cm).ownBlock ∨ (Value.slice av (s.marks ++ [r]).length cv).ownBlock = some (W1.alloc (.cells #[.int .i32 r] 21)).heap.size) ∧ OwnR W3 (rb + 1) (Value.slice av (s.marks ++ [r]).length cv) (s.marks ++ [r])) := ⟨hg, hat, ho⟩; clear hg hat hC3 ho)
      | (go_at_call 66; refine HC.out.mono ?_; rintro e W1 ⟨rfl, g2, g6, g7, gf, gl, hA⟩; clear HC))
    go_end0
    obtain ⟨a1, a2, a3, a4⟩ := hA.out
    obtain ⟨x1, x2, x3, x4, x5, x6, x7, x8⟩ := HX.out
    obtain ⟨q1, q2, q3⟩ := HG.out
    rw [show (s.marks ++ [r]).length = s.marks.length + 1 by simp] at q2 q3
    have hbU : Below rb W W1 := a1.mono (Nat.le_of_lt x6)
    exact ⟨rfl, putM_end (s := s) (wh := s.wh) a2 (x1.trans hbU) hbU a3 a4 x2 x3 x4 x5 (fun k hk hne => a1.block k hk) q3 q1 q2⟩
end Go.Proofs.YtemhfcgkfdklhaaGreatDoor.Look
set_option linter.all false
namespace Go.Proofs.YtemhfcgkfdklhaaGreatDoor.Look
open Go Go.RowKit Go.Shelf Go.Proofs Go.Proofs.YtemhfcgkfdklhaaGreatDoor.Rd

/-- A slice value from which characters may be read. -/
def SrcR (w : World) (v : Value) (l : List Int) : Prop := (∃ (ad : Addr) (c : Nat), v = .slice (some ad) l.length c ∧ ∀ j u, (l.map enc32)[j]? = some u → w.cell? (ad.add j) = some u) ∨ (v = .slice none 0 0 ∧ l = [])
theorem OwnR.src {w : World} {base : Nat} {v : Value} {l : List Int} (h : OwnR w base v l) : SrcR w v l := by
  have hc := fun g hg => World.ownsRow.cells h (g := g) hg
  rcases h.2 with ⟨rfl, h0⟩ | ⟨g, cap, cur, rfl, _⟩
  · exact .inr ⟨rfl, List.eq_nil_of_length_eq_zero h0⟩
  · exact .inl ⟨⟨g, 0, none⟩, cap, rfl, fun j u hu => hc g rfl j u hu⟩
theorem step_append_run {ops : Array Oper} {o : Oper} {a : Act} {K : Act → World → Prop} {Q : Exit → Act → World → Prop} {E : Prop} {w : World} (hgd : o.guard = none) (s x : Operand)
    (ho : o.op = .call { callee := .builtin .append, args := #[s, x], argTypes := #[23, 23] }) (base : Nat) (v : Value) (xs : List Int) (hs : a.eval s = v) (hown : OwnR w base v xs) (vx : Value) (l : List Int) (hx : a.eval x = vx) (hsrc : SrcR w vx l)
    (hlen : xs.length + l.length ≤ 1000000000) (hbase : base ≤ w.heap.size)
    (h : ∀ v' w', OwnR w' base v' (xs ++ l) → w.grownBy w' v.ownBlock → (v'.ownBlock = v.ownBlock ∨ v'.ownBlock = some w.heap.size) → K (a.put o.dst v') w') :
    if Region.wanted o (yielded ops a.tmps) = true then Oper.wp Tryz.prog o a w K Q else E := by
  have hw : Region.wanted o (yielded ops a.tmps) = true := by simp [Region.wanted, hgd]
  rw [if_pos hw]
  obtain ⟨ie, hi, hz, hsz, hby⟩ := info_parts i32I
  rcases hsrc with ⟨ad, c, rfl, hc⟩ | ⟨rfl, rfl⟩
  · obtain ⟨v', w', hr, h2, h3, _, h5⟩ := run_append_own_at (P := Tryz.prog) w base 23 o.type 21 ie (.int .i32 0) 1 4 Tryz.underlying23 hi hz hsz hby rfl (by decide) v xs.length (xs.map enc32) hown ad l.length c (l.map enc32) (by simp) hc one32 (by unfold maxLen; omega) (by omega) hbase
    unfold Oper.wp
    simp [execOp, ho, resolve, invoke, builtin, hs, hx, hr, Result.andThen]
    refine h v' w' ?_ h3 h5
    unfold OwnR
    rw [List.length_append, List.map_append]
    exact h2
  · have hrun := run_append_owned_none (P := Tryz.prog) (w := w) base 23 o.type 21 ie 1 Tryz.underlying23 hi v xs.length (xs.map enc32) hown
    unfold Oper.wp
    simp [execOp, ho, resolve, invoke, builtin, hs, hx, hrun, Result.andThen]
    refine h v w (by simpa using hown) ⟨rfl, rfl, rfl, Nat.le_refl _, fun _ _ _ => rfl⟩ (.inl rfl)
theorem keepM {W W3 : World} {base : Nat} {vo vm : Value} {l : List Int} (h : OwnR W base vm l) (h4 : vo.ownBlock = none ∨ vo.ownBlock ≠ vm.ownBlock) (hg : W.grownBy W3 vo.ownBlock) : OwnR W3 base vm l := by
  refine World.ownsRow.kept h hg ?_
  cases hm : vm.ownBlock with
  | none => exact .inl rfl
  | some g =>
    refine .inr fun e => ?_
    rcases h4 with h | h
    · rw [h] at e; cases e
    · exact h (by rw [hm]; exact e.symm)
theorem srcM {W W3 : World} {base : Nat} {vo vm : Value} {l lo : List Int} (h : OwnR W base vm l) (ho : OwnR W base vo lo) (h4 : vo.ownBlock = none ∨ vo.ownBlock ≠ vm.ownBlock) (hg : W.grownBy W3 vo.ownBlock) : SrcR W3 vm l := (keepM h h4 hg).src
theorem putO_end {wr W W1 W3 W4 : World} {rb lim : Nat} {xp bs vo vm v1 v2 : Value} {s : RS} {r : Int} {n : Nat} {o : Obj} {v2' : Value} (hU : RC W1 rb (RV xp bs s vo vm))
    (hX : Below rb wr W1 ∧ (vo.ownBlock = none ∨ vo.ownBlock ≠ vm.ownBlock) ∧ (∀ g, vo.ownBlock = some g → g < lim) ∧ (∀ g, vm.ownBlock = some g → g < lim) ∧ lim ≤ W.heap.size ∧ rb < W.heap.size ∧ s.out.length + s.marks.length ≤ 100000000 ∧ some rb ≠ vo.ownBlock ∧ Below W.heap.size W W1)
    (h2 : OwnR W1 (rb + 1) vo s.out) (h3 : OwnR W1 (rb + 1) vm s.marks) (hg1 : (W1.alloc o).grownBy W3 vo.ownBlock) (hat1 : v1.ownBlock = vo.ownBlock ∨ v1.ownBlock = some (W1.alloc o).heap.size) (ho1 : OwnR W3 (rb + 1) v1 (s.out ++ [r]))
    (hg2 : W3.grownBy W4 v1.ownBlock) (hat2 : v2.ownBlock = v1.ownBlock ∨ v2.ownBlock = some W3.heap.size) (ho2 : OwnR W4 (rb + 1) v2 (s.out ++ [r] ++ s.marks)) (hv : v2' = v2) :
    PutOk wr W rb lim xp bs { s with pos := s.pos + n, out := s.out ++ [r] ++ s.marks, marks := [] } (((W4.setCell ⟨rb, 5, none⟩ v2').setCell ⟨rb, 6, none⟩ (.slice none 0 0)).setCell ⟨rb, 2, none⟩ (.int .i64 ((s.pos + n : Nat) : Int))) := by
  subst hv
  obtain ⟨x1, x2, x3, x4, x5, x6, x7, x8, x9⟩ := hX
  have hg1' : W1.grownBy W3 vo.ownBlock := (World.grownBy_alloc W1 o _).trans hg1
  have hr1 : some rb ≠ v1.ownBlock := fun e => by have := (ho1.lt rb e.symm).1; omega
  have hC := ((((hU.grown hg1' x8).grown hg2 hr1).put 5 v2').put 6 (.slice none 0 0)).put 2 (.int .i64 ((s.pos + n : Nat) : Int))
  have hb1 : Below rb W1 W3 := (Below.refl _ _).grown hg1' (Nat.le_of_lt hU.lt) fun k hk => by have := (h2.lt k hk).1; omega
  have hb2 : Below rb W3 W4 := (Below.refl _ _).grown hg2 (Nat.le_trans (Nat.le_of_lt hU.lt) hg1'.size) fun k hk => by have := (ho1.lt k hk).1; omega
  have hb3 : Below rb W1 (((W4.setCell ⟨rb, 5, none⟩ v2').setCell ⟨rb, 6, none⟩ (.slice none 0 0)).setCell ⟨rb, 2, none⟩ (.int .i64 ((s.pos + n : Nat) : Int))) := (((hb1.trans hb2).setCell (p := ⟨rb, 5, none⟩) (Nat.le_refl _) _).setCell (p := ⟨rb, 6, none⟩) (Nat.le_refl _) _).setCell (p := ⟨rb, 2, none⟩) (Nat.le_refl _) _
  have hsz : (((W4.setCell ⟨rb, 5, none⟩ v2').setCell ⟨rb, 6, none⟩ (.slice none 0 0)).setCell ⟨rb, 2, none⟩ (.int .i64 ((s.pos + n : Nat) : Int))).heap.size = W4.heap.size := by simp
  have s1 := hg1'.size
  have s2 := hg2.size
  have s3 := x9.size
  refine ⟨⟨⟨v2', .slice none 0 0, hC, ?_, World.ownsRow_nil _ _ _ _, Classical.em _, fun g hg => ?_, fun g hg => by simp [Value.ownBlock] at hg⟩, x1.trans hb3⟩, (x9.mono (Nat.le_of_lt x6)).trans hb3, fun k h1 h2' h3' => ?_⟩
  · exact ((ho2.put (Nat.lt_succ_self rb) _).put (Nat.lt_succ_self rb) _).put (Nat.lt_succ_self rb) _
  · rw [hsz]; exact (ho2.lt g hg).2
  · rw [heap_put h3', heap_put h3', heap_put h3', hg2.block k (by omega) fun e => ?_, hg1'.block k (by omega) fun e => by have := x3 k e.symm; omega]
    · exact x9.block k h2'
    · rcases hat1 with h | h
      · have := x3 k (by rw [← h]; exact e.symm); omega
      · rw [h] at e
        injection e with e
        simp at e
        omega

set_option maxHeartbeats 8000000 in
set_option maxRecDepth 100000 in
theorem cPutO (wr W : World) (rb lim : Nat) (xp bs : Value) (s : RS) (r : Int) (n : Nat) (h : RA wr W rb lim xp bs s) (hlim : lim ≤ W.heap.size) (hm : markV r = false) (hn : n ≤ 3) (hb1 : s.out.length + s.marks.length ≤ 100000000) (hb2 : s.pos ≤ 2000000) :
    Calls Tryz.prog 48 #[.pointer (some ⟨rb, 0, none⟩), .int .i32 r, .int .i64 n] W fun e W' => e = .returned (.tuple #[]) ∧ PutOk wr W rb lim xp bs (putS markV s r n) W' := by
  have hput : putS markV s r n = { s with pos := s.pos + n, out := s.out ++ [r] ++ s.marks, marks := [] } := by unfold putS; rw [if_neg (by rw [hm]; simp)]
  rw [hput]
  clear hput
  have cM := mark r W
  rw [hm] at cM
  obtain ⟨⟨vo, vm, h1, h2, h3, h4, h5, h6⟩, hbl⟩ := h
  obtain ⟨am, cm, rfl⟩ := h3.form
  obtain ⟨ao, co, rfl⟩ := h2.form
  obtain ⟨M, hM⟩ : ∃ M, M = s.marks.length := ⟨_, rfl⟩
  obtain ⟨No, hNo⟩ : ∃ No, No = s.out.length := ⟨_, rfl⟩
  rw [← hM] at h1 h3 h4 h6
  rw [← hNo] at h1 h2 h4 h5
  clear hM hNo
  have c1 : Calls Tryz.prog 66 #[.int .i32 r] W fun e W' => e = .returned (.bool false) ∧ Aside (∃ W1, W1 = W'.drew ∧ rb < W1.heap.size ∧ W1.cell? ⟨rb, 5, none⟩ = some (.slice ao No co) ∧ W1.cell? ⟨rb, 6, none⟩ = some (.slice am M cm) ∧
      (RC W1 rb (RV xp bs s (.slice ao No co) (.slice am M cm)) ∧ OwnR W1 (rb + 1) (.slice ao No co) s.out ∧ OwnR W1 (rb + 1) (.slice am M cm) s.marks) ∧
      (Below rb wr W1 ∧ ((Value.slice ao No co).ownBlock = none ∨ (Value.slice ao No co).ownBlock ≠ (Value.slice am M cm).ownBlock) ∧ (∀ g, (Value.slice ao No co).ownBlock = some g → g < lim) ∧ (∀ g, (Value.slice am M cm).ownBlock = some g → g < lim) ∧ lim ≤ W.heap.size ∧ rb < W.heap.size ∧ s.out.length + s.marks.length ≤ 100000000 ∧ some rb ≠ (Value.slice ao No co).ownBlock ∧ Below W.heap.size W W1)) := by
    refine cM.mono ?_
    rintro e W' ⟨rfl, hb⟩
    have hb' : Below W.heap.size W W'.drew := hb.drew
    have hC := h1.below hb' h1.lt
    exact ⟨rfl, W'.drew, rfl, hC.lt, hC.cell 5 _ rfl, hC.cell 6 _ rfl, ⟨hC, h2.below hb', h3.below hb'⟩, hbl.trans (hb'.mono (Nat.le_of_lt h1.lt)), h4, h5, h6, hlim, h1.lt, hb1, fun e => by have := (h2.lt rb e.symm).1; omega, hb'⟩
  have HC := Lib.hid c1
  clear c1 cM h1 h2 h3 h4 h5 h6 hbl hlim hb1 hm
  go_enter Tryz.func48, Tryz.ntmps48
  go_wp2_with (go_at_call 66; refine HC.out.mono ?_; rintro e W0 ⟨rfl, hA0⟩; clear HC)
  obtain ⟨W1, hW1, gl, g5, g6, hA, HX⟩ := hA0.out
  replace hA := Lib.hid hA
  replace HX := Lib.hid HX
  clear hA0
  rw [hW1] at g6
  refine wp_region_held_drew (S := fun w' => w'.cell? ⟨rb, 6, none⟩ = some (.slice am M cm)) (by kernel_rfl) g6 (fun hHeld => ?_)
  rw [← hW1] at hHeld ⊢ g6
  clear hW1
  refine wpAnyH_take (i := 0) (v := ?v0_1) rfl (by kernel_rfl) (by kernel_rfl) (by kernel_rfl) (fun _ _ _ h => h) (Or.inl ⟨by kernel_rfl, ?h0_1⟩) hHeld ?r0_1
  case h0_1 => (rintro w' q0; go_simp; try (with_reducible rfl))
  try simp only [Act.put, List.getElem_toArray, List.getElem_cons_zero, List.getElem_cons_succ, List.setIfInBounds_toArray, List.set_cons_zero, List.set_cons_succ]
  refine wpAnyH_take (i := 1) (v := ?v1_2) rfl (by kernel_rfl) (by kernel_rfl) (by kernel_rfl) (fun _ _ _ h => h) (Or.inl ⟨by kernel_rfl, ?h1_2⟩) hHeld ?r1_2
  case h1_2 => (rintro w' q0; go_simp; try (with_reducible rfl))
  try simp only [Act.put, List.getElem_toArray, List.getElem_cons_zero, List.getElem_cons_succ, List.setIfInBounds_toArray, List.set_cons_zero, List.set_cons_succ]
  refine wpAnyH_take (i := 2) (v := ?v2_3) rfl (by kernel_rfl) (by kernel_rfl) (by kernel_rfl) (fun _ _ _ h => h) (Or.inl ⟨by kernel_rfl, ?h2_3⟩) hHeld ?r2_3
  case h2_3 => (rintro w' q0; go_simp; try (with_reducible rfl))
  try simp only [Act.put, List.getElem_toArray, List.getElem_cons_zero, List.getElem_cons_succ, List.setIfInBounds_toArray, List.set_cons_zero, List.set_cons_succ]
  refine wpAnyH_take (i := 3) (v := ?v3_4) rfl (by kernel_rfl) (by kernel_rfl) (by kernel_rfl) (fun _ _ _ h => h) (Or.inl ⟨by kernel_rfl, ?h3_4⟩) hHeld ?r3_4
  case h3_4 => (rintro w' q0; go_simp; try (with_reducible rfl))
  try simp only [Act.put, List.getElem_toArray, List.getElem_cons_zero, List.getElem_cons_succ, List.setIfInBounds_toArray, List.set_cons_zero, List.set_cons_succ]
  refine wpAnyH_take (i := 5) (v := ?v5_5) rfl (by kernel_rfl) (by kernel_rfl) (by kernel_rfl) (fun _ _ _ h => h) (Or.inl ⟨by kernel_rfl, ?h5_5⟩) hHeld ?r5_5
  case h5_5 => (rintro w' q0; go_simp; try (with_reducible rfl))
  try simp only [Act.put, List.getElem_toArray, List.getElem_cons_zero, List.getElem_cons_succ, List.setIfInBounds_toArray, List.set_cons_zero, List.set_cons_succ]
  refine wpAnyH_take (i := 8) (v := ?v8_6) rfl (by kernel_rfl) (by kernel_rfl) (by kernel_rfl) (fun _ _ _ h => h) (Or.inl ⟨by kernel_rfl, ?h8_6⟩) hHeld ?r8_6
  case h8_6 => (rintro w' q0; go_simp; try (with_reducible rfl))
  try simp only [Act.put, List.getElem_toArray, List.getElem_cons_zero, List.getElem_cons_succ, List.setIfInBounds_toArray, List.set_cons_zero, List.set_cons_succ]
  refine wpAnyH_take (i := 9) (v := ?v9_7) rfl (by kernel_rfl) (by kernel_rfl) (by kernel_rfl) (fun _ _ _ h => h) (Or.inl ⟨by kernel_rfl, ?h9_7⟩) hHeld ?r9_7
  case h9_7 => (rintro w' q0; go_simp; try (with_reducible rfl))
  try simp only [Act.put, List.getElem_toArray, List.getElem_cons_zero, List.getElem_cons_succ, List.setIfInBounds_toArray, List.set_cons_zero, List.set_cons_succ]
  refine wpAnyH_take (i := 10) (v := ?v10_8) rfl (by kernel_rfl) (by kernel_rfl) (by kernel_rfl) (fun _ _ _ h => h) (Or.inl ⟨by kernel_rfl, ?h10_8⟩) hHeld ?r10_8
  case h10_8 => (rintro w' q0; go_simp; try (with_reducible rfl))
  try simp only [Act.put, List.getElem_toArray, List.getElem_cons_zero, List.getElem_cons_succ, List.setIfInBounds_toArray, List.set_cons_zero, List.set_cons_succ]
  refine wpAnyH_take (i := 11) (v := ?v11_9) rfl (by kernel_rfl) (by kernel_rfl) (by kernel_rfl) (fun _ _ _ h => h) (Or.inl ⟨by kernel_rfl, ?h11_9⟩) hHeld ?r11_9
  case h11_9 => (rintro w' q0; go_simp; try (with_reducible rfl))
  try simp only [Act.put, List.getElem_toArray, List.getElem_cons_zero, List.getElem_cons_succ, List.setIfInBounds_toArray, List.set_cons_zero, List.set_cons_succ]
  refine wpAnyH_ready (rs := [4, 6]) (by kernel_rfl) (by simp) ?_
  refine AllReadyH.cons (o := { dst := some 35, op := Op.load 23 (Operand.tmp 34), type := 23, pos := "read.go:82", after := #[{ on := 3, ground := Ground.data }], guard := none }) rfl (fun K hK => ?_) (AllReadyH.cons (o := { dst := some 37, op := Op.buildSlice 23 1 #[(0, Operand.tmp 36)], type := 23, pos := "read.go:82", after := #[{ on := 5, ground := Ground.data }], guard := none }) rfl (fun K hK => ?_) AllReadyH.nil)
  · go_simp
    refine hK.out _ _ hHeld (fun hH1 => ?_)
    clear hK K
    try simp only [Act.put, List.getElem_toArray, List.getElem_cons_zero, List.getElem_cons_succ, List.setIfInBounds_toArray, List.set_cons_zero, List.set_cons_succ]
    refine wpAnyH_ready (rs := [6]) (by kernel_rfl) (by simp) ?_
    refine AllReadyH.cons (o := { dst := some 37, op := Op.buildSlice 23 1 #[(0, Operand.tmp 36)], type := 23, pos := "read.go:82", after := #[{ on := 5, ground := Ground.data }], guard := none }) rfl (fun K hK => ?_) AllReadyH.nil
    go_simp
    refine hK.out _ _ ((World.cell?_alloc_some _ _ _ (by rw [g6]; rfl)).trans g6) (fun hH2 => ?_)
    clear hK K
    try simp only [Act.put, List.getElem_toArray, List.getElem_cons_zero, List.getElem_cons_succ, List.setIfInBounds_toArray, List.set_cons_zero, List.set_cons_succ]
    refine wpAnyH_ready (rs := [7]) (by kernel_rfl) (by simp) ?_
    refine AllReadyH.cons (o := { dst := some 38, op := Op.call { callee := Callee.builtin Builtin.append, args := #[Operand.tmp 35, Operand.tmp 37], argTypes := #[23, 23] }, type := 23, pos := "read.go:82", after := #[{ on := 4, ground := Ground.data }, { on := 6, ground := Ground.data }], guard := none }) rfl (fun K hK => ?_) AllReadyH.nil
    refine step_append_run rfl _ _ rfl (rb + 1) _ s.out rfl (hA.out.2.1.alloc _) _ [r] rfl (.inl ⟨⟨W1.heap.size, 0, none⟩, 1, rfl, one_rune _ _ r rfl⟩) (by have := HX.out.2.2.2.2.2.2.1; simp; omega) (by simp; omega) ?_
    intro v1 W3 ho1 hg1 hat1
    have hC3 := hA.out.1.grown ((World.grownBy_alloc _ _ _).trans hg1) HX.out.2.2.2.2.2.2.2.1
    have k6 := hC3.cell 6 _ rfl
    refine hK.out _ _ k6 (fun hH3 => ?_)
    clear hK K
    try simp only [Act.put, List.getElem_toArray, List.getElem_cons_zero, List.getElem_cons_succ, List.setIfInBounds_toArray, List.set_cons_zero, List.set_cons_succ]
    refine wpAnyH_ready (rs := [12]) (by kernel_rfl) (by simp) ?_
    refine AllReadyH.cons (o := { dst := some 43, op := Op.call { callee := Callee.builtin Builtin.append, args := #[Operand.tmp 38, Operand.tmp 42], argTypes := #[23, 23] }, type := 23, pos := "read.go:82", after := #[{ on := 7, ground := Ground.data }, { on := 11, ground := Ground.data }, { on := 7, ground := Ground.chain }], guard := none }) rfl (fun K hK => ?_) AllReadyH.nil
    refine step_append_run rfl _ _ rfl (rb + 1) _ _ rfl ho1 _ s.marks rfl (srcM hA.out.2.2 hA.out.2.1 HX.out.2.1 ((World.grownBy_alloc _ _ _).trans hg1)) (by have := HX.out.2.2.2.2.2.2.1; simp; omega) (by have := hg1.size; simp at this; omega) ?_
    intro v2 W4 ho2 hg2 hat2
    obtain ⟨av, cv, rfl⟩ := ho2.form
    have hr1 : some rb ≠ v1.ownBlock := fun e => by have := (ho1.lt rb e.symm).1; omega
    have hC4 := hC3.grown hg2 hr1
    have j2 := hC4.cell 2 _ rfl
    have j5 := hC4.cell 5 _ rfl
    have j6 := hC4.cell 6 _ rfl
    have jf := hC4.free
    have jl := hC4.lt
    refine hK.out _ _ j6 (fun hH4 => ?_)
    clear hK K
    try simp only [Act.put, List.getElem_toArray, List.getElem_cons_zero, List.getElem_cons_succ, List.setIfInBounds_toArray, List.set_cons_zero, List.set_cons_succ]
    have HG := Lib.hid (⟨hg1, hat1, ho1, hg2, hat2, ho2⟩ : (W1.alloc (.cells #[.int .i32 r] 21)).grownBy W3 (Value.slice ao No co).ownBlock ∧ _ ∧ OwnR W3 (rb + 1) v1 (s.out ++ [r]) ∧ _ ∧ _ ∧ OwnR W4 (rb + 1) _ (s.out ++ [r] ++ s.marks))
    clear hg1 hat1 ho1 hg2 hat2 ho2 hC3 hC4 k6 hr1 hH3
    refine wpAnyH_take (i := 13) (v := ?v13_10) rfl (by kernel_rfl) (by kernel_rfl) (by kernel_rfl) (fun _ _ _ h => h) (Or.inl ⟨by kernel_rfl, ?h13_10⟩) hH4 ?r13_10
    case h13_10 => (rintro w' q0; go_simp; try (with_reducible rfl))
    try simp only [Act.put, List.getElem_toArray, List.getElem_cons_zero, List.getElem_cons_succ, List.setIfInBounds_toArray, List.set_cons_zero, List.set_cons_succ]
    refine wpAnyH_take (i := 14) (v := ?v14_11) rfl (by kernel_rfl) (by kernel_rfl) (by kernel_rfl) (fun _ _ _ h => h) (Or.inl ⟨by kernel_rfl, ?h14_11⟩) hH4 ?r14_11
    case h14_11 => (rintro w' q0; go_simp; try (with_reducible rfl))
    try simp only [Act.put, List.getElem_toArray, List.getElem_cons_zero, List.getElem_cons_succ, List.setIfInBounds_toArray, List.set_cons_zero, List.set_cons_succ]
    refine wpAnyH_ready (rs := [15]) (by kernel_rfl) (by simp) ?_
    refine AllReadyH.cons (o := { dst := none, op := Op.store 23 (Operand.tmp 45) (Operand.tmp 43), type := 0, pos := "read.go:82", after := #[{ on := 14, ground := Ground.data }, { on := 12, ground := Ground.data }, { on := 12, ground := Ground.chain }, { on := 0, ground := Ground.phase }, { on := 1, ground := Ground.phase }, { on := 2, ground := Ground.phase }, { on := 3, ground := Ground.phase }, { on := 4, ground := Ground.phase }, { on := 5, ground := Ground.phase }, { on := 6, ground := Ground.phase }, { on := 7, ground := Ground.phase }, { on := 8, ground := Ground.phase }, { on := 9, ground := Ground.phase }, { on := 10, ground := Ground.phase }, { on := 11, ground := Ground.phase }, { on := 12, ground := Ground.phase }], guard := none }) rfl (fun K hK => ?_) AllReadyH.nil
    go_simp
    refine hK.out _ _ ((cell_off (by omega)).trans j6) (fun hH5 => ?_)
    clear hK K
    try simp only [Act.put, List.getElem_toArray, List.getElem_cons_zero, List.getElem_cons_succ, List.setIfInBounds_toArray, List.set_cons_zero, List.set_cons_succ]
    refine wpAnyH_done (by kernel_rfl) ?_ _
    try simp only [Act.put, List.getElem_toArray, List.getElem_cons_zero, List.getElem_cons_succ, List.setIfInBounds_toArray, List.set_cons_zero, List.set_cons_succ]
    clear hH5 hH4 hHeld
    go_wp2
    go_end0
    obtain ⟨q1, q2, q3, q4, q5, q6⟩ := HG.out
    exact ⟨rfl, putO_end hA.out.1 HX.out hA.out.2.1 hA.out.2.2 q1 q2 q3 q4 q5 (by simpa using q6) (by simp)⟩
  · go_simp
    refine hK.out _ _ ((World.cell?_alloc_some _ _ _ (by rw [g6]; rfl)).trans g6) (fun hH1 => ?_)
    clear hK K
    try simp only [Act.put, List.getElem_toArray, List.getElem_cons_zero, List.getElem_cons_succ, List.setIfInBounds_toArray, List.set_cons_zero, List.set_cons_succ]
    have g5a : (W1.alloc (.cells #[.int .i32 r] 21)).cell? ⟨rb, 5, none⟩ = some (.slice ao No co) := (World.cell?_alloc_some _ _ _ (by rw [g5]; rfl)).trans g5
    refine wpAnyH_ready (rs := [4]) (by kernel_rfl) (by simp) ?_
    refine AllReadyH.cons (o := { dst := some 35, op := Op.load 23 (Operand.tmp 34), type := 23, pos := "read.go:82", after := #[{ on := 3, ground := Ground.data }], guard := none }) rfl (fun K hK => ?_) AllReadyH.nil
    go_simp
    refine hK.out _ _ hH1 (fun hH2 => ?_)
    clear hK K
    try simp only [Act.put, List.getElem_toArray, List.getElem_cons_zero, List.getElem_cons_succ, List.setIfInBounds_toArray, List.set_cons_zero, List.set_cons_succ]
    refine wpAnyH_ready (rs := [7]) (by kernel_rfl) (by simp) ?_
    refine AllReadyH.cons (o := { dst := some 38, op := Op.call { callee := Callee.builtin Builtin.append, args := #[Operand.tmp 35, Operand.tmp 37], argTypes := #[23, 23] }, type := 23, pos := "read.go:82", after := #[{ on := 4, ground := Ground.data }, { on := 6, ground := Ground.data }], guard := none }) rfl (fun K hK => ?_) AllReadyH.nil
    refine step_append_run rfl _ _ rfl (rb + 1) _ s.out rfl (hA.out.2.1.alloc _) _ [r] rfl (.inl ⟨⟨W1.heap.size, 0, none⟩, 1, rfl, one_rune _ _ r rfl⟩) (by have := HX.out.2.2.2.2.2.2.1; simp; omega) (by simp; omega) ?_
    intro v1 W3 ho1 hg1 hat1
    have hC3 := hA.out.1.grown ((World.grownBy_alloc _ _ _).trans hg1) HX.out.2.2.2.2.2.2.2.1
    have k6 := hC3.cell 6 _ rfl
    refine hK.out _ _ k6 (fun hH3 => ?_)
    clear hK K
    try simp only [Act.put, List.getElem_toArray, List.getElem_cons_zero, List.getElem_cons_succ, List.setIfInBounds_toArray, List.set_cons_zero, List.set_cons_succ]
    refine wpAnyH_ready (rs := [12]) (by kernel_rfl) (by simp) ?_
    refine AllReadyH.cons (o := { dst := some 43, op := Op.call { callee := Callee.builtin Builtin.append, args := #[Operand.tmp 38, Operand.tmp 42], argTypes := #[23, 23] }, type := 23, pos := "read.go:82", after := #[{ on := 7, ground := Ground.data }, { on := 11, ground := Ground.data }, { on := 7, ground := Ground.chain }], guard := none }) rfl (fun K hK => ?_) AllReadyH.nil
    refine step_append_run rfl _ _ rfl (rb + 1) _ _ rfl ho1 _ s.marks rfl (srcM hA.out.2.2 hA.out.2.1 HX.out.2.1 ((World.grownBy_alloc _ _ _).trans hg1)) (by have := HX.out.2.2.2.2.2.2.1; simp; omega) (by have := hg1.size; simp at this; omega) ?_
    intro v2 W4 ho2 hg2 hat2
    obtain ⟨av, cv, rfl⟩ := ho2.form
    have hr1 : some rb ≠ v1.ownBlock := fun e => by have := (ho1.lt rb e.symm).1; omega
    have hC4 := hC3.grown hg2 hr1
    have j2 := hC4.cell 2 _ rfl
    have j5 := hC4.cell 5 _ rfl
    have j6 := hC4.cell 6 _ rfl
    have jf := hC4.free
    have jl := hC4.lt
    refine hK.out _ _ j6 (fun hH4 => ?_)
    clear hK K
    try simp only [Act.put, List.getElem_toArray, List.getElem_cons_zero, List.getElem_cons_succ, List.setIfInBounds_toArray, List.set_cons_zero, List.set_cons_succ]
    have HG := Lib.hid (⟨hg1, hat1, ho1, hg2, hat2, ho2⟩ : (W1.alloc (.cells #[.int .i32 r] 21)).grownBy W3 (Value.slice ao No co).ownBlock ∧ _ ∧ OwnR W3 (rb + 1) v1 (s.out ++ [r]) ∧ _ ∧ _ ∧ OwnR W4 (rb + 1) _ (s.out ++ [r] ++ s.marks))
    clear hg1 hat1 ho1 hg2 hat2 ho2 hC3 hC4 k6 hr1 hH3
    refine wpAnyH_take (i := 13) (v := ?v13_12) rfl (by kernel_rfl) (by kernel_rfl) (by kernel_rfl) (fun _ _ _ h => h) (Or.inl ⟨by kernel_rfl, ?h13_12⟩) hH4 ?r13_12
    case h13_12 => (rintro w' q0; go_simp; try (with_reducible rfl))
    try simp only [Act.put, List.getElem_toArray, List.getElem_cons_zero, List.getElem_cons_succ, List.setIfInBounds_toArray, List.set_cons_zero, List.set_cons_succ]
    refine wpAnyH_take (i := 14) (v := ?v14_13) rfl (by kernel_rfl) (by kernel_rfl) (by kernel_rfl) (fun _ _ _ h => h) (Or.inl ⟨by kernel_rfl, ?h14_13⟩) hH4 ?r14_13
    case h14_13 => (rintro w' q0; go_simp; try (with_reducible rfl))
    try simp only [Act.put, List.getElem_toArray, List.getElem_cons_zero, List.getElem_cons_succ, List.setIfInBounds_toArray, List.set_cons_zero, List.set_cons_succ]
    refine wpAnyH_ready (rs := [15]) (by kernel_rfl) (by simp) ?_
    refine AllReadyH.cons (o := { dst := none, op := Op.store 23 (Operand.tmp 45) (Operand.tmp 43), type := 0, pos := "read.go:82", after := #[{ on := 14, ground := Ground.data }, { on := 12, ground := Ground.data }, { on := 12, ground := Ground.chain }, { on := 0, ground := Ground.phase }, { on := 1, ground := Ground.phase }, { on := 2, ground := Ground.phase }, { on := 3, ground := Ground.phase }, { on := 4, ground := Ground.phase }, { on := 5, ground := Ground.phase }, { on := 6, ground := Ground.phase }, { on := 7, ground := Ground.phase }, { on := 8, ground := Ground.phase }, { on := 9, ground := Ground.phase }, { on := 10, ground := Ground.phase }, { on := 11, ground := Ground.phase }, { on := 12, ground := Ground.phase }], guard := none }) rfl (fun K hK => ?_) AllReadyH.nil
    go_simp
    refine hK.out _ _ ((cell_off (by omega)).trans j6) (fun hH5 => ?_)
    clear hK K
    try simp only [Act.put, List.getElem_toArray, List.getElem_cons_zero, List.getElem_cons_succ, List.setIfInBounds_toArray, List.set_cons_zero, List.set_cons_succ]
    refine wpAnyH_done (by kernel_rfl) ?_ _
    try simp only [Act.put, List.getElem_toArray, List.getElem_cons_zero, List.getElem_cons_succ, List.setIfInBounds_toArray, List.set_cons_zero, List.set_cons_succ]
    clear hH5 hH4 hHeld
    go_wp2
    go_end0
    obtain ⟨q1, q2, q3, q4, q5, q6⟩ := HG.out
    exact ⟨rfl, putO_end hA.out.1 HX.out hA.out.2.1 hA.out.2.2 q1 q2 q3 q4 q5 (by simpa using q6) (by simp)⟩
end Go.Proofs.YtemhfcgkfdklhaaGreatDoor.Look
