/- (*Index).add: one more code. -/
import Derived.Deep.RegionHeld3
import Derived.Deep.AppendLies
import Derived.BigRegion
import Derived.RegionTactic
import Derived.Lib.SmallJoins
import Derived.Test.YtemhfcgkfdklhaaGreatDoorIdx
set_option linter.all false
namespace Go.Proofs.YtemhfcgkfdklhaaGreatDoor.Idx
open Go Go.RowKit Go.Maps

section
variable {ops : Array Oper} {o : Oper} {a : Act} {K : Act → World → Prop} {Q : Exit → Act → World → Prop} {E : Prop} {w : World}
theorem step_lookup_codes (hgd : o.guard = none) (m x : Operand) (hop : o.op = Op.lookup 82 m x false) (base b n : Nat) (O : Nat → Prop) (hown : CodesAt w base b n O) (hn : n < maxLen) (r : Int) (hr : (Lit.int .i32 r).wf = true)
    (hm : a.eval m = .map (some b)) (hx : a.eval x = .int .i32 r)
    (h : ∀ v k xs, k ≤ n → w.ownsRow base 89 2 v k xs → (∀ g, v.ownBlock = some g → O g) → CodeBack w base b n O (.int .i32 r) v → K (a.put o.dst v) w) :
    if Region.wanted o (yielded ops a.tmps) = true then Oper.wp Tryz.prog o a w K Q else E := by
  have hw : Region.wanted o (yielded ops a.tmps) = true := by simp [Region.wanted, hgd]
  rw [if_pos hw]
  obtain ⟨v, k, xs, hrun, h1, h2, h3, h4⟩ := codes_at hown hn r hr
  unfold Oper.wp
  simp [execOp, hop, hm, hx, hrun, Result.andThen]
  exact h v k xs h1 h2 h3 h4
theorem step_store_codes (hgd : o.guard = none) (m x v : Operand) (hop : o.op = Op.mapUpdate 82 m x v) {w0 : World} {base b n : Nat} {O : Nat → Prop} {r : Int} {u v' : Value} (hback : CodeBack w0 base b n O (.int .i32 r) u)
    (hm : a.eval m = .map (some b)) (hx : a.eval x = .int .i32 r) (hv : a.eval v = v') (hg : w0.grownBy w u.ownBlock) (k : Nat) (xs : List Value) (hk : k ≤ n + 1) (hown : w.ownsRow base 89 2 v' k xs) (hloc : v'.ownBlock = u.ownBlock ∨ ∃ g, v'.ownBlock = some g ∧ w0.heap.size ≤ g)
    (h : ∀ w2, CodesAt w2 base b (n + 1) (fun k => O k ∨ v'.ownBlock = some k) → w.grownBy w2 (some b) → K (a.put o.dst undef) w2) :
    if Region.wanted o (yielded ops a.tmps) = true then Oper.wp Tryz.prog o a w K Q else E := by
  have hw : Region.wanted o (yielded ops a.tmps) = true := by simp [Region.wanted, hgd]
  rw [if_pos hw]
  obtain ⟨w2, hrun, h1, h2⟩ := hback w v' k xs hg hk hown hloc
  unfold Oper.wp
  simp [execOp, hop, hm, hx, hv, hrun, Result.andThen]
  exact h w2 h1 h2
theorem step_store_runes (hgd : o.guard = none) (m x v : Operand) (hop : o.op = Op.mapUpdate 83 m x v) (b k : Nat) (D : DataW Unit) (hown : w.ownsMap Tryz.prog 89 (plainElem Tryz.prog 21) b k D) (hk : k < maxLen) {s n r : Int} (hs : W64 s) (hn : W64 n) (hr : (Lit.int .i32 r).wf = true)
    (hm : a.eval m = .map (some b)) (hx : a.eval x = key2 s n) (hv : a.eval v = .int .i32 r)
    (h : ∀ w2, w2.ownsMap Tryz.prog 89 (plainElem Tryz.prog 21) b (k + 1) (D.put (lit2 s n) (.lit (.int .i32 r))) → w.grownBy w2 (some b) → K (a.put o.dst undef) w2) :
    if Region.wanted o (yielded ops a.tmps) = true then Oper.wp Tryz.prog o a w K Q else E := by
  have hw : Region.wanted o (yielded ops a.tmps) = true := by simp [Region.wanted, hgd]
  rw [if_pos hw]
  obtain ⟨w2, hrun, h1, h2⟩ := hown.update codeKey Tryz.underlying83 hk (keyOf2 hs hn) (plainElem_int Tryz.underlying21 hr)
  unfold Oper.wp
  simp [execOp, hop, hm, hx, hv, hrun, Result.andThen]
  exact h w2 h1 h2
theorem step_append_codes (hgd : o.guard = none) (s x : Operand) (ho : o.op = .call { callee := .builtin .append, args := #[s, x], argTypes := #[109, 109] }) (base : Nat) (v : Value) (n : Nat) (xs : List Value) (hs : a.eval s = v) (hown : w.ownsRow base 89 2 v n xs)
    (ad : Addr) (c : Nat) (u1 u2 : Value) (hx : a.eval x = .slice (some ad) 1 c) (hnews : ∀ j u, [u1, u2][j]? = some u → w.cell? (ad.add j) = some u) (h1 : ∀ u ∈ [u1, u2], u.oneCell' = true) (h63 : n ≤ 1000000000) (hbase : base ≤ w.heap.size)
    (h : ∀ v' w', w'.ownsRow base 89 2 v' (n + 1) (xs ++ [u1, u2]) → w.grownBy w' v.ownBlock → (v'.ownBlock = v.ownBlock ∨ v'.ownBlock = some w.heap.size) → K (a.put o.dst v') w') :
    if Region.wanted o (yielded ops a.tmps) = true then Oper.wp Tryz.prog o a w K Q else E := by
  have hw : Region.wanted o (yielded ops a.tmps) = true := by simp [Region.wanted, hgd]
  rw [if_pos hw]
  obtain ⟨ie, hi, hz, hsz, hby⟩ := info_parts (show (Tryz.prog.info? 89).map (fun i => (i.zero, i.size, i.bytes)) = some (some (.agg #[.int .i64 0, .int .i64 0]), 2, 16) by kernel_rfl)
  obtain ⟨v', w', hr, h2, h3, _, h5⟩ := run_append_own_at (P := Tryz.prog) w base 109 o.type 89 ie (.agg #[.int .i64 0, .int .i64 0]) 2 16 Tryz.underlying109 hi hz hsz hby rfl (by decide) v n xs hown ad 1 c [u1, u2] rfl hnews h1 (by unfold maxLen; omega) (by omega) hbase
  unfold Oper.wp
  simp [execOp, ho, resolve, invoke, builtin, hs, hx, hr, Result.andThen]
  exact h v' w' h2 h3 h5
end

/-- What the region's loads need, in whatever world. -/
def Held (xb bc box : Nat) (s n : Int) (w' : World) : Prop := w'.cell? ⟨xb, 0, none⟩ = some (.map (some bc)) ∧ w'.cell? ⟨box, 0, none⟩ = some (.int .i64 s) ∧ w'.cell? ⟨box, 1, none⟩ = some (.int .i64 n)
theorem news2 (W : World) (b : Nat) (s n : Int) (hb : b = W.heap.size) : ∀ j u, [Value.int .i64 s, Value.int .i64 n][j]? = some u → (W.alloc (.cells #[.int .i64 s, .int .i64 n] 89)).cell? ((⟨b, 0, none⟩ : Addr).add j) = some u := by
  subst hb
  exact World.news_of_block (cs := #[.int .i64 s, .int .i64 n]) (MapKept.heap_alloc W _).1
theorem held_alloc {W : World} {xb bc box : Nat} {s n : Int} (h : W.cell? ⟨xb, 0, none⟩ = some (.map (some bc)) ∧ W.cell? ⟨box, 0, none⟩ = some (.int .i64 s) ∧ W.cell? ⟨box, 1, none⟩ = some (.int .i64 n)) (o : Obj) :
    (W.alloc o).cell? ⟨xb, 0, none⟩ = some (.map (some bc)) ∧ (W.alloc o).cell? ⟨box, 0, none⟩ = some (.int .i64 s) ∧ (W.alloc o).cell? ⟨box, 1, none⟩ = some (.int .i64 n) := by
  obtain ⟨h1, h2, h3⟩ := h
  refine ⟨?_, ?_, ?_⟩
  · rw [World.cell?_alloc_some _ _ _ (by rw [h1]; rfl), h1]
  · rw [World.cell?_alloc_some _ _ _ (by rw [h2]; rfl), h2]
  · rw [World.cell?_alloc_some _ _ _ (by rw [h3]; rfl), h3]
theorem held_grown {W1 W3 : World} {xb bc br base box : Nat} {A : Adds} {O : Nat → Prop} {s n : Int} {u : Option Nat} (h : Idx W1 xb bc br base A O) (hbox : ¬ Own xb bc br O box) (hg : W1.grownBy W3 u) (hu : ∀ g, u = some g → O g)
    (b0 : W1.cell? ⟨box, 0, none⟩ = some (.int .i64 s)) (b1 : W1.cell? ⟨box, 1, none⟩ = some (.int .i64 n)) : W3.cell? ⟨xb, 0, none⟩ = some (.map (some bc)) ∧ W3.cell? ⟨box, 0, none⟩ = some (.int .i64 s) ∧ W3.cell? ⟨box, 1, none⟩ = some (.int .i64 n) := by
  have h1 : some xb ≠ u := fun e => by have := h.o _ (hu xb e.symm); have := h.xlt; omega
  have h2 : some box ≠ u := fun e => hbox (.inr (.inr (.inr (hu box e.symm))))
  exact ⟨hg.cell h.x0 h1, hg.cell b0 h2, hg.cell b1 h2⟩
/-- Behind the first store. -/
structure Mid (W1 W4 : World) (xb bc br base : Nat) (A : Adds) (O O' : Nat → Prop) : Prop where
  x0 : W4.cell? ⟨xb, 0, none⟩ = some (.map (some bc))
  x1 : W4.cell? ⟨xb, 1, none⟩ = some (.map (some br))
  codes : CodesAt W4 base bc (A.length + 1) O'
  runes : W4.ownsMap Tryz.prog 89 (plainElem Tryz.prog 21) br A.length (datA A)
  free : Free (Own xb bc br O) W1 W4
  o : ∀ k, O' k → k < W1.heap.size → O k
  obase : ∀ k, O' k → base ≤ k
theorem mid {W1 W3 W4 : World} {xb bc br base : Nat} {A : Adds} {O : Nat → Prop} {v v' : Value} (h : Idx W1 xb bc br base A O) (hg : W1.grownBy W3 v.ownBlock) (hu : ∀ g, v.ownBlock = some g → O g) (hc : CodesAt W4 base bc (A.length + 1) (fun k => O k ∨ v'.ownBlock = some k))
    (hloc : v'.ownBlock = v.ownBlock ∨ ∃ g, v'.ownBlock = some g ∧ W1.heap.size ≤ g) (hg2 : W3.grownBy W4 (some bc)) {m : Nat} {xs : List Value} (hown : W3.ownsRow base 89 2 v' m xs) : Mid W1 W4 xb bc br base A O (fun k => O k ∨ v'.ownBlock = some k) := by
  have h1 : some xb ≠ v.ownBlock := fun e => by have := h.o _ (hu xb e.symm); have := h.xlt; omega
  have h2 : some br ≠ v.ownBlock := fun e => by have := h.o _ (hu br e.symm); have := h.blt; omega
  have n1 : some xb ≠ some bc := fun e => h.nex.1 (by injection e)
  have n2 : some br ≠ some bc := fun e => h.ne (by injection e with e; exact e.symm)
  refine ⟨hg2.cell (hg.cell h.x0 h1) n1, hg2.cell (hg.cell h.x1 h1) n1, hc, (h.runes.kept hg h2).kept hg2 n2, ?_, fun k hk hlt => ?_, fun k hk => ?_⟩
  · exact (Free.of_grown (O := Own xb bc br O) hg fun k e => .inr (.inr (.inr (hu k e)))).trans (Free.of_grown (O := Own xb bc br O) hg2 fun k e => .inr (.inl (by injection e with e; exact e.symm))) fun _ h _ => h
  · rcases hk with hk | hk
    · exact hk
    · rcases hloc with e | ⟨g, e, hge⟩
      · exact hu k (e.symm.trans hk)
      · rw [e] at hk
        injection hk with hk
        omega
  · rcases hk with hk | hk
    · exact h.o k hk
    · exact (hown.lt k hk).1
theorem Mid.drew {W1 W4 : World} {xb bc br base : Nat} {A : Adds} {O O' : Nat → Prop} (h : Mid W1 W4 xb bc br base A O O') : Mid W1 W4.drew xb bc br base A O O' :=
  ⟨h.x0, h.x1, h.codes.kept (Nat.le_refl _) rfl fun _ _ => rfl, h.runes, ⟨h.free.os, h.free.tape, h.free.output, h.free.size, h.free.block⟩, h.o, h.obase⟩
theorem Mid.held {W1 W4 : World} {xb bc br base box : Nat} {A : Adds} {O O' : Nat → Prop} {s n : Int} (h : Mid W1 W4 xb bc br base A O O') (hbox : ¬ Own xb bc br O box) (b0 : W1.cell? ⟨box, 0, none⟩ = some (.int .i64 s)) (b1 : W1.cell? ⟨box, 1, none⟩ = some (.int .i64 n)) :
    W4.cell? ⟨xb, 0, none⟩ = some (.map (some bc)) ∧ W4.cell? ⟨box, 0, none⟩ = some (.int .i64 s) ∧ W4.cell? ⟨box, 1, none⟩ = some (.int .i64 n) := by
  have e := h.free.block box (World.block_lt_of_cell? W1 ⟨box, 0, none⟩ b0) hbox
  exact ⟨h.x0, (World.cell?_of_block (w := W1) (a := ⟨box, 0, none⟩) e).trans b0, (World.cell?_of_block (w := W1) (a := ⟨box, 1, none⟩) e).trans b1⟩
/-- Behind the second store. -/
theorem Mid.fin {W1 W4 W5 : World} {xb bc br base : Nat} {A : Adds} {O O' : Nat → Prop} {s n r : Int} (h : Mid W1 W4 xb bc br base A O O') (hI : Idx W1 xb bc br base A O) (hs : W64 s) (hn : W64 n) (hr : -2147483648 ≤ r ∧ r ≤ 2147483647)
    (h5 : W5.ownsMap Tryz.prog 89 (plainElem Tryz.prog 21) br (A.length + 1) ((datA A).put (lit2 s n) (.lit (.int .i32 r)))) (hg : W4.grownBy W5 (some br)) : Idx W5 xb bc br base (A ++ [(s, n, r)]) O' := by
  have e1 : (A ++ [(s, n, r)]).length = A.length + 1 := by simp
  have n1 : some xb ≠ some br := fun e => hI.nex.2 (by injection e)
  refine ⟨hg.cell h.x0 n1, hg.cell h.x1 n1, ?_, ?_, hI.ne, hI.xlt, hI.nex, hI.blt, h.obase, Nat.le_trans hI.bsz (Nat.le_trans h.free.size hg.size), fun a ha => ?_⟩
  · rw [e1]
    have hbc : bc < W4.heap.size := by
      obtain ⟨⟨es, clock, h1, _⟩, _, _⟩ := h.codes
      exact (Array.getElem?_eq_some_iff.1 h1).1
    exact h.codes.kept hg.size (hg.block bc hbc fun e => hI.ne (by injection e)) fun k hk => hg.block k (h.codes.olt k hk) fun e => by
      have := h.obase k hk
      have := hI.blt
      injection e with e
      omega
  · rw [e1, datA_snoc]
    exact h5
  · rcases List.mem_append.1 ha with ha | ha
    · exact hI.wf a ha
    · simp at ha
      rw [ha]
      exact ⟨hs, hn, hr.1, hr.2⟩
theorem Mid.held5 {W1 W4 W5 : World} {xb bc br base box : Nat} {A A' : Adds} {O O' : Nat → Prop} {s n : Int} (h : Mid W1 W4 xb bc br base A O O') (hE : Idx W5 xb bc br base A' O') (hg : W4.grownBy W5 (some br)) (hbox : ¬ Own xb bc br O box) (b0 : W1.cell? ⟨box, 0, none⟩ = some (.int .i64 s)) (b1 : W1.cell? ⟨box, 1, none⟩ = some (.int .i64 n)) :
    W5.cell? ⟨xb, 1, none⟩ = some (.map (some br)) ∧ W5.cell? ⟨box, 0, none⟩ = some (.int .i64 s) ∧ W5.cell? ⟨box, 1, none⟩ = some (.int .i64 n) := by
  have hh := h.held hbox b0 b1
  have hne : some box ≠ some br := fun e => hbox (.inr (.inr (.inl (by injection e))))
  exact ⟨hE.x1, hg.cell hh.2.1 hne, hg.cell hh.2.2 hne⟩
theorem Mid.fin2 {w W1 W4 W5 : World} {xb bc br base : Nat} {A : Adds} {A' : Adds} {O O' : Nat → Prop} (h : Mid W1 W4 xb bc br base A O O') (hE : Idx W5 xb bc br base A' O') (hg : W4.grownBy W5 (some br)) (hf : Free (Own xb bc br O) w W1) :
    Free (Own xb bc br O) w W5 ∧ ∃ O', Idx W5 xb bc br base A' O' ∧ ∀ k, O' k → k < w.heap.size → O k :=
  ⟨(hf.trans h.free fun _ h _ => h).trans (Free.of_grown (O := Own xb bc br O) hg fun k e => .inr (.inr (.inl (by injection e with e; exact e.symm)))) fun _ h _ => h, O', hE, fun k hk hl => h.o k hk (Nat.lt_of_lt_of_le hl hf.size)⟩

set_option maxHeartbeats 4000000 in
set_option maxRecDepth 100000 in
theorem add (xb bc br base : Nat) (A : Adds) (O : Nat → Prop) (s n r : Int) (w : World) (h : Idx w xb bc br base A O) (hA : A.length ≤ 100000000) (hs : W64 s) (hn : W64 n) (hr : -2147483648 ≤ r ∧ r ≤ 2147483647) :
    Calls Tryz.prog 41 #[.pointer (some ⟨xb, 0, none⟩), .agg #[.int .i64 s, .int .i64 n], .int .i32 r] w fun e w' => e = .returned (.tuple #[]) ∧ Free (Own xb bc br O) w w' ∧
      ∃ O', Idx w' xb bc br base (A ++ [(s, n, r)]) O' ∧ ∀ k, O' k → k < w.heap.size → O k := by
  have hlt := h.lt
  have hwr : (Lit.int .i32 r).wf = true := WalkArith.wf_i32 hr
  obtain ⟨W, hW⟩ : ∃ W, W = w.alloc (.cells #[.int .i64 s, .int .i64 n] 89) := ⟨_, rfl⟩
  obtain ⟨W1, hW1⟩ : ∃ W1, W1 = W.drew := ⟨_, rfl⟩
  have hsz1 : W1.heap.size = w.heap.size + 1 := by rw [hW1, hW]; simp
  have hold1 : ∀ k, k < w.heap.size → W1.heap[k]? = w.heap[k]? := fun k hk => by rw [hW1, hW]; exact (World.grownBy_alloc w _ none).block k hk (by simp)
  have hf1 : Free (Own xb bc br O) w W1 := by rw [hW1, hW]; exact ⟨rfl, rfl, rfl, by simp, fun k hk _ => (World.grownBy_alloc w _ none).block k hk (by simp)⟩
  have hnew : W1.heap[w.heap.size]? = some (.cells #[.int .i64 s, .int .i64 n] 89) := by rw [hW1, hW]; exact (MapKept.heap_alloc w _).1
  have hI1 : Idx W1 xb bc br base A O := h.kept (by omega) fun k hk => hold1 k (hlt k hk)
  have b0 : W1.cell? ⟨w.heap.size, 0, none⟩ = some (.int .i64 s) := by simp [World.cell?, hnew]
  have b1 : W1.cell? ⟨w.heap.size, 1, none⟩ = some (.int .i64 n) := by simp [World.cell?, hnew]
  have hbox : ¬ Own xb bc br O w.heap.size := fun e => Nat.lt_irrefl _ (hlt _ e)
  go_enter Tryz.func41, Tryz.ntmps41
  go_wp2
  rw [← hW]
  refine wp_region_held_drew (S := Held xb bc w.heap.size s n) (by kernel_rfl) (by rw [← hW1]; exact ⟨hI1.x0, b0, b1⟩) (fun hHeld => ?_)
  rw [← hW1] at hHeld ⊢
  clear hW1 hW hnew
  refine wpAnyH_take (i := 0) (v := ?v0_1) rfl (by kernel_rfl) (by kernel_rfl) (by kernel_rfl) (fun _ _ _ h => h) (Or.inl ⟨by kernel_rfl, ?h0_1⟩) hHeld ?r0_1
  case h0_1 => (rintro w' ⟨q0, q1, q2⟩; go_simp; try (with_reducible rfl))
  try simp only [Act.put, List.getElem_toArray, List.getElem_cons_zero, List.getElem_cons_succ, List.setIfInBounds_toArray, List.set_cons_zero, List.set_cons_succ]
  refine wpAnyH_take (i := 1) (v := ?v1_2) rfl (by kernel_rfl) (by kernel_rfl) (by kernel_rfl) (fun _ _ _ h => h) (Or.inl ⟨by kernel_rfl, ?h1_2⟩) hHeld ?r1_2
  case h1_2 => (rintro w' ⟨q0, q1, q2⟩; go_simp; try (with_reducible rfl))
  try simp only [Act.put, List.getElem_toArray, List.getElem_cons_zero, List.getElem_cons_succ, List.setIfInBounds_toArray, List.set_cons_zero, List.set_cons_succ]
  refine wpAnyH_take (i := 2) (v := ?v2_3) rfl (by kernel_rfl) (by kernel_rfl) (by kernel_rfl) (fun _ _ _ h => h) (Or.inl ⟨by kernel_rfl, ?h2_3⟩) hHeld ?r2_3
  case h2_3 => (rintro w' ⟨q0, q1, q2⟩; go_simp; try (with_reducible rfl))
  try simp only [Act.put, List.getElem_toArray, List.getElem_cons_zero, List.getElem_cons_succ, List.setIfInBounds_toArray, List.set_cons_zero, List.set_cons_succ]
  refine wpAnyH_take (i := 3) (v := ?v3_4) rfl (by kernel_rfl) (by kernel_rfl) (by kernel_rfl) (fun _ _ _ h => h) (Or.inl ⟨by kernel_rfl, ?h3_4⟩) hHeld ?r3_4
  case h3_4 => (rintro w' ⟨q0, q1, q2⟩; go_simp; try (with_reducible rfl))
  try simp only [Act.put, List.getElem_toArray, List.getElem_cons_zero, List.getElem_cons_succ, List.setIfInBounds_toArray, List.set_cons_zero, List.set_cons_succ]
  refine wpAnyH_take (i := 4) (v := ?v4_5) rfl (by kernel_rfl) (by kernel_rfl) (by kernel_rfl) (fun _ _ _ h => h) (Or.inl ⟨by kernel_rfl, ?h4_5⟩) hHeld ?r4_5
  case h4_5 => (rintro w' ⟨q0, q1, q2⟩; go_simp; try (with_reducible rfl))
  try simp only [Act.put, List.getElem_toArray, List.getElem_cons_zero, List.getElem_cons_succ, List.setIfInBounds_toArray, List.set_cons_zero, List.set_cons_succ]
  refine wpAnyH_take (i := 5) (v := ?v5_6) rfl (by kernel_rfl) (by kernel_rfl) (by kernel_rfl) (fun _ _ _ h => h) (Or.inl ⟨by kernel_rfl, ?h5_6⟩) hHeld ?r5_6
  case h5_6 => (rintro w' ⟨q0, q1, q2⟩; go_simp; try (with_reducible rfl))
  try simp only [Act.put, List.getElem_toArray, List.getElem_cons_zero, List.getElem_cons_succ, List.setIfInBounds_toArray, List.set_cons_zero, List.set_cons_succ]
  refine wpAnyH_take (i := 6) (v := ?v6_7) rfl (by kernel_rfl) (by kernel_rfl) (by kernel_rfl) (fun _ _ _ h => h) (Or.inl ⟨by kernel_rfl, ?h6_7⟩) hHeld ?r6_7
  case h6_7 => (rintro w' ⟨q0, q1, q2⟩; go_simp; try (with_reducible rfl))
  try simp only [Act.put, List.getElem_toArray, List.getElem_cons_zero, List.getElem_cons_succ, List.setIfInBounds_toArray, List.set_cons_zero, List.set_cons_succ]
  refine wpAnyH_take (i := 7) (v := ?v7_8) rfl (by kernel_rfl) (by kernel_rfl) (by kernel_rfl) (fun _ _ _ h => h) (Or.inl ⟨by kernel_rfl, ?h7_8⟩) hHeld ?r7_8
  case h7_8 => (rintro w' ⟨q0, q1, q2⟩; go_simp; try (with_reducible rfl))
  try simp only [Act.put, List.getElem_toArray, List.getElem_cons_zero, List.getElem_cons_succ, List.setIfInBounds_toArray, List.set_cons_zero, List.set_cons_succ]
  refine wpAnyH_take (i := 8) (v := ?v8_9) rfl (by kernel_rfl) (by kernel_rfl) (by kernel_rfl) (fun _ _ _ h => h) (Or.inl ⟨by kernel_rfl, ?h8_9⟩) hHeld ?r8_9
  case h8_9 => (rintro w' ⟨q0, q1, q2⟩; go_simp; try (with_reducible rfl))
  try simp only [Act.put, List.getElem_toArray, List.getElem_cons_zero, List.getElem_cons_succ, List.setIfInBounds_toArray, List.set_cons_zero, List.set_cons_succ]
  refine wpAnyH_take (i := 9) (v := ?v9_10) rfl (by kernel_rfl) (by kernel_rfl) (by kernel_rfl) (fun _ _ _ h => h) (Or.inl ⟨by kernel_rfl, ?h9_10⟩) hHeld ?r9_10
  case h9_10 => (rintro w' ⟨q0, q1, q2⟩; go_simp; try (with_reducible rfl))
  try simp only [Act.put, List.getElem_toArray, List.getElem_cons_zero, List.getElem_cons_succ, List.setIfInBounds_toArray, List.set_cons_zero, List.set_cons_succ]
  refine wpAnyH_take (i := 11) (v := ?v11_11) rfl (by kernel_rfl) (by kernel_rfl) (by kernel_rfl) (fun _ _ _ h => h) (Or.inl ⟨by kernel_rfl, ?h11_11⟩) hHeld ?r11_11
  case h11_11 => (rintro w' ⟨q0, q1, q2⟩; go_simp; try (with_reducible rfl))
  try simp only [Act.put, List.getElem_toArray, List.getElem_cons_zero, List.getElem_cons_succ, List.setIfInBounds_toArray, List.set_cons_zero, List.set_cons_succ]
  refine wpAnyH_ready (rs := [10, 12]) (by kernel_rfl) (by simp) ?_
  refine AllReadyH.cons (o := { dst := some 16, op := Op.lookup 82 (Operand.tmp 14) (Operand.tmp 15) false, type := 109, pos := "glyph.go:54", after := #[{ on := 8, ground := Ground.data }, { on := 9, ground := Ground.data }], guard := none }) rfl (fun K hK => ?_) (AllReadyH.cons (o := { dst := some 18, op := Op.buildSlice 109 1 #[(0, Operand.tmp 17)], type := 109, pos := "glyph.go:54", after := #[{ on := 11, ground := Ground.data }], guard := none }) rfl (fun K hK => ?_) AllReadyH.nil)
  · refine step_lookup_codes rfl _ _ rfl base bc A.length O hI1.codes (by unfold maxLen; omega) r hwr rfl rfl ?_
    intro v m xs hm hown hvO hback
    refine hK.out _ _ hHeld (fun hH1 => ?_)
    clear hK K
    try simp only [Act.put, List.getElem_toArray, List.getElem_cons_zero, List.getElem_cons_succ, List.setIfInBounds_toArray, List.set_cons_zero, List.set_cons_succ]
    refine wpAnyH_ready (rs := [12]) (by kernel_rfl) (by simp) ?_
    refine AllReadyH.cons (o := { dst := some 18, op := Op.buildSlice 109 1 #[(0, Operand.tmp 17)], type := 109, pos := "glyph.go:54", after := #[{ on := 11, ground := Ground.data }], guard := none }) rfl (fun K hK => ?_) AllReadyH.nil
    go_simp
    refine hK.out _ _ (held_alloc hHeld _) (fun hH2 => ?_)
    clear hK K
    try simp only [Act.put, List.getElem_toArray, List.getElem_cons_zero, List.getElem_cons_succ, List.setIfInBounds_toArray, List.set_cons_zero, List.set_cons_succ]
    refine wpAnyH_ready (rs := [13]) (by kernel_rfl) (by simp) ?_
    refine AllReadyH.cons (o := { dst := some 19, op := Op.call { callee := Callee.builtin Builtin.append, args := #[Operand.tmp 16, Operand.tmp 18], argTypes := #[109, 109] }, type := 109, pos := "glyph.go:54", after := #[{ on := 10, ground := Ground.data }, { on := 12, ground := Ground.data }], guard := none }) rfl (fun K hK => ?_) AllReadyH.nil
    have hbsz := hI1.bsz
    refine step_append_codes rfl _ _ rfl base v m xs rfl (hown.alloc _) ⟨w.heap.size + 1, 0, none⟩ 1 (.int .i64 s) (.int .i64 n) rfl (news2 _ _ _ _ hsz1.symm) (by intro u hu; simp at hu; rcases hu with rfl | rfl <;> rfl) (by omega) (by simp; omega) ?_
    intro v' W3 hown3 hg3 hloc
    have hgA : W1.grownBy W3 v.ownBlock := (World.grownBy_alloc W1 _ _).trans hg3
    have hg1 : W1.grownBy W3 v.ownBlock := hgA
    have hS3 := held_grown hI1 hbox hg1 hvO b0 b1
    refine hK.out _ _ hS3 (fun hH3 => ?_)
    clear hK K
    try simp only [Act.put, List.getElem_toArray, List.getElem_cons_zero, List.getElem_cons_succ, List.setIfInBounds_toArray, List.set_cons_zero, List.set_cons_succ]
    refine wpAnyH_ready (rs := [14]) (by kernel_rfl) (by simp) ?_
    refine AllReadyH.cons (o := { dst := none, op := Op.mapUpdate 82 (Operand.tmp 9) (Operand.tmp 10) (Operand.tmp 19), type := 0, pos := "glyph.go:54", after := #[{ on := 3, ground := Ground.data }, { on := 4, ground := Ground.data }, { on := 13, ground := Ground.data }, { on := 13, ground := Ground.chain }, { on := 0, ground := Ground.phase }, { on := 1, ground := Ground.phase }, { on := 2, ground := Ground.phase }, { on := 3, ground := Ground.phase }, { on := 4, ground := Ground.phase }, { on := 5, ground := Ground.phase }, { on := 6, ground := Ground.phase }, { on := 7, ground := Ground.phase }, { on := 8, ground := Ground.phase }, { on := 9, ground := Ground.phase }, { on := 10, ground := Ground.phase }, { on := 11, ground := Ground.phase }, { on := 12, ground := Ground.phase }, { on := 13, ground := Ground.phase }], guard := none }) rfl (fun K hK => ?_) AllReadyH.nil
    refine step_store_codes rfl _ _ _ rfl hback rfl rfl rfl hgA (m + 1) _ (by omega) hown3 (hloc.imp id fun e => ⟨_, e, by simp⟩) ?_
    intro W4 hc4 hg4
    have hM := mid hI1 hg1 hvO hc4 (hloc.imp id fun e => ⟨_, e, by simp⟩) hg4 hown3
    refine hK.out _ _ (hM.held hbox b0 b1) (fun hH4 => ?_)
    clear hK K
    try simp only [Act.put, List.getElem_toArray, List.getElem_cons_zero, List.getElem_cons_succ, List.setIfInBounds_toArray, List.set_cons_zero, List.set_cons_succ]
    refine wpAnyH_done (by kernel_rfl) ?_ _
    replace hM := hM.drew
    clear hback hc4 hg4 hg3 hgA hg1 hS3 hown3 hown hvO hloc hH3 hHeld hH4
    go_wp2
    refine wp_region_held_drew (S := fun w' => w'.cell? ⟨xb, 1, none⟩ = some (.map (some br)) ∧ w'.cell? ⟨w.heap.size, 0, none⟩ = some (.int .i64 s) ∧ w'.cell? ⟨w.heap.size, 1, none⟩ = some (.int .i64 n)) (by kernel_rfl) ⟨hM.x1, (hM.held hbox b0 b1).2⟩ (fun hHeld => ?_)
    refine wpAnyH_take (i := 0) (v := ?v0_16) rfl (by kernel_rfl) (by kernel_rfl) (by kernel_rfl) (fun _ _ _ h => h) (Or.inl ⟨by kernel_rfl, ?h0_16⟩) hHeld ?r0_16
    case h0_16 => (rintro w' ⟨q0, q1, q2⟩; go_simp; try (with_reducible rfl))
    try simp only [Act.put, List.getElem_toArray, List.getElem_cons_zero, List.getElem_cons_succ, List.setIfInBounds_toArray, List.set_cons_zero, List.set_cons_succ]
    refine wpAnyH_take (i := 1) (v := ?v1_17) rfl (by kernel_rfl) (by kernel_rfl) (by kernel_rfl) (fun _ _ _ h => h) (Or.inl ⟨by kernel_rfl, ?h1_17⟩) hHeld ?r1_17
    case h1_17 => (rintro w' ⟨q0, q1, q2⟩; go_simp; try (with_reducible rfl))
    try simp only [Act.put, List.getElem_toArray, List.getElem_cons_zero, List.getElem_cons_succ, List.setIfInBounds_toArray, List.set_cons_zero, List.set_cons_succ]
    refine wpAnyH_take (i := 2) (v := ?v2_18) rfl (by kernel_rfl) (by kernel_rfl) (by kernel_rfl) (fun _ _ _ h => h) (Or.inl ⟨by kernel_rfl, ?h2_18⟩) hHeld ?r2_18
    case h2_18 => (rintro w' ⟨q0, q1, q2⟩; go_simp; try (with_reducible rfl))
    try simp only [Act.put, List.getElem_toArray, List.getElem_cons_zero, List.getElem_cons_succ, List.setIfInBounds_toArray, List.set_cons_zero, List.set_cons_succ]
    refine wpAnyH_take (i := 3) (v := ?v3_19) rfl (by kernel_rfl) (by kernel_rfl) (by kernel_rfl) (fun _ _ _ h => h) (Or.inl ⟨by kernel_rfl, ?h3_19⟩) hHeld ?r3_19
    case h3_19 => (rintro w' ⟨q0, q1, q2⟩; go_simp; try (with_reducible rfl))
    try simp only [Act.put, List.getElem_toArray, List.getElem_cons_zero, List.getElem_cons_succ, List.setIfInBounds_toArray, List.set_cons_zero, List.set_cons_succ]
    refine wpAnyH_take (i := 4) (v := ?v4_20) rfl (by kernel_rfl) (by kernel_rfl) (by kernel_rfl) (fun _ _ _ h => h) (Or.inl ⟨by kernel_rfl, ?h4_20⟩) hHeld ?r4_20
    case h4_20 => (rintro w' ⟨q0, q1, q2⟩; go_simp; try (with_reducible rfl))
    try simp only [Act.put, List.getElem_toArray, List.getElem_cons_zero, List.getElem_cons_succ, List.setIfInBounds_toArray, List.set_cons_zero, List.set_cons_succ]
    refine wpAnyH_take (i := 5) (v := ?v5_21) rfl (by kernel_rfl) (by kernel_rfl) (by kernel_rfl) (fun _ _ _ h => h) (Or.inl ⟨by kernel_rfl, ?h5_21⟩) hHeld ?r5_21
    case h5_21 => (rintro w' ⟨q0, q1, q2⟩; go_simp; try (with_reducible rfl))
    try simp only [Act.put, List.getElem_toArray, List.getElem_cons_zero, List.getElem_cons_succ, List.setIfInBounds_toArray, List.set_cons_zero, List.set_cons_succ]
    refine wpAnyH_ready (rs := [6]) (by kernel_rfl) (by simp) ?_
    refine AllReadyH.cons (o := { dst := none, op := Op.mapUpdate 83 (Operand.tmp 23) (Operand.tmp 24) (Operand.tmp 25), type := 0, pos := "glyph.go:55", after := #[{ on := 3, ground := Ground.data }, { on := 4, ground := Ground.data }, { on := 5, ground := Ground.data }, { on := 0, ground := Ground.phase }, { on := 1, ground := Ground.phase }, { on := 2, ground := Ground.phase }, { on := 3, ground := Ground.phase }, { on := 4, ground := Ground.phase }, { on := 5, ground := Ground.phase }], guard := none }) rfl (fun K hK => ?_) AllReadyH.nil
    refine step_store_runes rfl _ _ _ rfl br A.length (datA A) hM.runes (by unfold maxLen; omega) hs hn hwr rfl rfl rfl ?_
    intro W5 h5 hg5
    have hE := hM.fin hI1 hs hn hr h5 hg5
    refine hK.out _ _ (hM.held5 hE hg5 hbox b0 b1) (fun hH5 => ?_)
    clear hK K
    try simp only [Act.put, List.getElem_toArray, List.getElem_cons_zero, List.getElem_cons_succ, List.setIfInBounds_toArray, List.set_cons_zero, List.set_cons_succ]
    refine wpAnyH_done (by kernel_rfl) ?_ _
    clear hH5 hHeld
    go_wp2
    go_end0
    exact ⟨rfl, hM.fin2 hE hg5 hf1⟩
  · go_simp
    refine hK.out _ _ (held_alloc hHeld _) (fun hH2 => ?_)
    clear hK K
    try simp only [Act.put, List.getElem_toArray, List.getElem_cons_zero, List.getElem_cons_succ, List.setIfInBounds_toArray, List.set_cons_zero, List.set_cons_succ]
    have hI2 : Idx (W1.alloc (.cells #[.int .i64 s, .int .i64 n] 89)) xb bc br base A O := hI1.kept (by simp) fun k hk => (World.grownBy_alloc W1 _ none).block k (hI1.lt k hk) (by simp)
    refine wpAnyH_ready (rs := [10]) (by kernel_rfl) (by simp) ?_
    refine AllReadyH.cons (o := { dst := some 16, op := Op.lookup 82 (Operand.tmp 14) (Operand.tmp 15) false, type := 109, pos := "glyph.go:54", after := #[{ on := 8, ground := Ground.data }, { on := 9, ground := Ground.data }], guard := none }) rfl (fun K hK => ?_) AllReadyH.nil
    refine step_lookup_codes rfl _ _ rfl base bc A.length O hI2.codes (by unfold maxLen; omega) r hwr rfl rfl ?_
    intro v m xs hm hown hvO hback
    refine hK.out _ _ hH2 (fun hH1 => ?_)
    clear hK K
    try simp only [Act.put, List.getElem_toArray, List.getElem_cons_zero, List.getElem_cons_succ, List.setIfInBounds_toArray, List.set_cons_zero, List.set_cons_succ]
    refine wpAnyH_ready (rs := [13]) (by kernel_rfl) (by simp) ?_
    refine AllReadyH.cons (o := { dst := some 19, op := Op.call { callee := Callee.builtin Builtin.append, args := #[Operand.tmp 16, Operand.tmp 18], argTypes := #[109, 109] }, type := 109, pos := "glyph.go:54", after := #[{ on := 10, ground := Ground.data }, { on := 12, ground := Ground.data }], guard := none }) rfl (fun K hK => ?_) AllReadyH.nil
    have hbsz := hI1.bsz
    refine step_append_codes rfl _ _ rfl base v m xs rfl hown ⟨w.heap.size + 1, 0, none⟩ 1 (.int .i64 s) (.int .i64 n) rfl (news2 _ _ _ _ hsz1.symm) (by intro u hu; simp at hu; rcases hu with rfl | rfl <;> rfl) (by omega) (by simp; omega) ?_
    intro v' W3 hown3 hg3 hloc
    have hgA : (W1.alloc (.cells #[.int .i64 s, .int .i64 n] 89)).grownBy W3 v.ownBlock := hg3
    have hg1 : W1.grownBy W3 v.ownBlock := (World.grownBy_alloc W1 _ _).trans hg3
    have hS3 := held_grown hI1 hbox hg1 hvO b0 b1
    refine hK.out _ _ hS3 (fun hH3 => ?_)
    clear hK K
    try simp only [Act.put, List.getElem_toArray, List.getElem_cons_zero, List.getElem_cons_succ, List.setIfInBounds_toArray, List.set_cons_zero, List.set_cons_succ]
    refine wpAnyH_ready (rs := [14]) (by kernel_rfl) (by simp) ?_
    refine AllReadyH.cons (o := { dst := none, op := Op.mapUpdate 82 (Operand.tmp 9) (Operand.tmp 10) (Operand.tmp 19), type := 0, pos := "glyph.go:54", after := #[{ on := 3, ground := Ground.data }, { on := 4, ground := Ground.data }, { on := 13, ground := Ground.data }, { on := 13, ground := Ground.chain }, { on := 0, ground := Ground.phase }, { on := 1, ground := Ground.phase }, { on := 2, ground := Ground.phase }, { on := 3, ground := Ground.phase }, { on := 4, ground := Ground.phase }, { on := 5, ground := Ground.phase }, { on := 6, ground := Ground.phase }, { on := 7, ground := Ground.phase }, { on := 8, ground := Ground.phase }, { on := 9, ground := Ground.phase }, { on := 10, ground := Ground.phase }, { on := 11, ground := Ground.phase }, { on := 12, ground := Ground.phase }, { on := 13, ground := Ground.phase }], guard := none }) rfl (fun K hK => ?_) AllReadyH.nil
    refine step_store_codes rfl _ _ _ rfl hback rfl rfl rfl hgA (m + 1) _ (by omega) hown3 (hloc.imp id fun e => ⟨_, e, Nat.le_refl _⟩) ?_
    intro W4 hc4 hg4
    have hM := mid hI1 hg1 hvO hc4 (hloc.imp id fun e => ⟨_, e, by simp⟩) hg4 hown3
    refine hK.out _ _ (hM.held hbox b0 b1) (fun hH4 => ?_)
    clear hK K
    try simp only [Act.put, List.getElem_toArray, List.getElem_cons_zero, List.getElem_cons_succ, List.setIfInBounds_toArray, List.set_cons_zero, List.set_cons_succ]
    refine wpAnyH_done (by kernel_rfl) ?_ _
    replace hM := hM.drew
    clear hback hc4 hg4 hg3 hgA hg1 hS3 hown3 hown hvO hloc hH3 hHeld hH4
    go_wp2
    refine wp_region_held_drew (S := fun w' => w'.cell? ⟨xb, 1, none⟩ = some (.map (some br)) ∧ w'.cell? ⟨w.heap.size, 0, none⟩ = some (.int .i64 s) ∧ w'.cell? ⟨w.heap.size, 1, none⟩ = some (.int .i64 n)) (by kernel_rfl) ⟨hM.x1, (hM.held hbox b0 b1).2⟩ (fun hHeld => ?_)
    refine wpAnyH_take (i := 0) (v := ?v0_26) rfl (by kernel_rfl) (by kernel_rfl) (by kernel_rfl) (fun _ _ _ h => h) (Or.inl ⟨by kernel_rfl, ?h0_26⟩) hHeld ?r0_26
    case h0_26 => (rintro w' ⟨q0, q1, q2⟩; go_simp; try (with_reducible rfl))
    try simp only [Act.put, List.getElem_toArray, List.getElem_cons_zero, List.getElem_cons_succ, List.setIfInBounds_toArray, List.set_cons_zero, List.set_cons_succ]
    refine wpAnyH_take (i := 1) (v := ?v1_27) rfl (by kernel_rfl) (by kernel_rfl) (by kernel_rfl) (fun _ _ _ h => h) (Or.inl ⟨by kernel_rfl, ?h1_27⟩) hHeld ?r1_27
    case h1_27 => (rintro w' ⟨q0, q1, q2⟩; go_simp; try (with_reducible rfl))
    try simp only [Act.put, List.getElem_toArray, List.getElem_cons_zero, List.getElem_cons_succ, List.setIfInBounds_toArray, List.set_cons_zero, List.set_cons_succ]
    refine wpAnyH_take (i := 2) (v := ?v2_28) rfl (by kernel_rfl) (by kernel_rfl) (by kernel_rfl) (fun _ _ _ h => h) (Or.inl ⟨by kernel_rfl, ?h2_28⟩) hHeld ?r2_28
    case h2_28 => (rintro w' ⟨q0, q1, q2⟩; go_simp; try (with_reducible rfl))
    try simp only [Act.put, List.getElem_toArray, List.getElem_cons_zero, List.getElem_cons_succ, List.setIfInBounds_toArray, List.set_cons_zero, List.set_cons_succ]
    refine wpAnyH_take (i := 3) (v := ?v3_29) rfl (by kernel_rfl) (by kernel_rfl) (by kernel_rfl) (fun _ _ _ h => h) (Or.inl ⟨by kernel_rfl, ?h3_29⟩) hHeld ?r3_29
    case h3_29 => (rintro w' ⟨q0, q1, q2⟩; go_simp; try (with_reducible rfl))
    try simp only [Act.put, List.getElem_toArray, List.getElem_cons_zero, List.getElem_cons_succ, List.setIfInBounds_toArray, List.set_cons_zero, List.set_cons_succ]
    refine wpAnyH_take (i := 4) (v := ?v4_30) rfl (by kernel_rfl) (by kernel_rfl) (by kernel_rfl) (fun _ _ _ h => h) (Or.inl ⟨by kernel_rfl, ?h4_30⟩) hHeld ?r4_30
    case h4_30 => (rintro w' ⟨q0, q1, q2⟩; go_simp; try (with_reducible rfl))
    try simp only [Act.put, List.getElem_toArray, List.getElem_cons_zero, List.getElem_cons_succ, List.setIfInBounds_toArray, List.set_cons_zero, List.set_cons_succ]
    refine wpAnyH_take (i := 5) (v := ?v5_31) rfl (by kernel_rfl) (by kernel_rfl) (by kernel_rfl) (fun _ _ _ h => h) (Or.inl ⟨by kernel_rfl, ?h5_31⟩) hHeld ?r5_31
    case h5_31 => (rintro w' ⟨q0, q1, q2⟩; go_simp; try (with_reducible rfl))
    try simp only [Act.put, List.getElem_toArray, List.getElem_cons_zero, List.getElem_cons_succ, List.setIfInBounds_toArray, List.set_cons_zero, List.set_cons_succ]
    refine wpAnyH_ready (rs := [6]) (by kernel_rfl) (by simp) ?_
    refine AllReadyH.cons (o := { dst := none, op := Op.mapUpdate 83 (Operand.tmp 23) (Operand.tmp 24) (Operand.tmp 25), type := 0, pos := "glyph.go:55", after := #[{ on := 3, ground := Ground.data }, { on := 4, ground := Ground.data }, { on := 5, ground := Ground.data }, { on := 0, ground := Ground.phase }, { on := 1, ground := Ground.phase }, { on := 2, ground := Ground.phase }, { on := 3, ground := Ground.phase }, { on := 4, ground := Ground.phase }, { on := 5, ground := Ground.phase }], guard := none }) rfl (fun K hK => ?_) AllReadyH.nil
    refine step_store_runes rfl _ _ _ rfl br A.length (datA A) hM.runes (by unfold maxLen; omega) hs hn hwr rfl rfl rfl ?_
    intro W5 h5 hg5
    have hE := hM.fin hI1 hs hn hr h5 hg5
    refine hK.out _ _ (hM.held5 hE hg5 hbox b0 b1) (fun hH5 => ?_)
    clear hK K
    try simp only [Act.put, List.getElem_toArray, List.getElem_cons_zero, List.getElem_cons_succ, List.setIfInBounds_toArray, List.set_cons_zero, List.set_cons_succ]
    refine wpAnyH_done (by kernel_rfl) ?_ _
    clear hH5 hHeld
    go_wp2
    go_end0
    exact ⟨rfl, hM.fin2 hE hg5 hf1⟩
end Go.Proofs.YtemhfcgkfdklhaaGreatDoor.Idx
