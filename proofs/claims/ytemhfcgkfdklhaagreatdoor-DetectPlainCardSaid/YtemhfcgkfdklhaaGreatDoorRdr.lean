/- The reader in memory. -/
import Derived.Maps.AppendAt
import Derived.Deep.RegionHeld3
import Derived.Test.YtemhfcgkfdklhaaGreatDoorMark
import Derived.Test.YtemhfcgkfdklhaaGreatDoorIRd
set_option linter.unusedVariables false
namespace Go.Proofs.YtemhfcgkfdklhaaGreatDoor.Look
open Go Go.RowKit Go.Shelf Go.Proofs Go.Proofs.YtemhfcgkfdklhaaGreatDoor.Rd

def enc32 (x : Int) : Value := .int .i32 x
theorem one32 {l : List Int} : ∀ u ∈ l.map enc32, u.oneCell' = true := fun u hu => by
  obtain ⟨x, _, rfl⟩ := List.mem_map.1 hu
  rfl
def OwnR (w : World) (base : Nat) (v : Value) (l : List Int) : Prop := w.ownsRow base 21 1 v l.length (l.map enc32)
theorem OwnR.lt {w : World} {base : Nat} {v : Value} {l : List Int} (h : OwnR w base v l) : ∀ k, v.ownBlock = some k → base ≤ k ∧ k < w.heap.size := World.ownsRow.lt h
theorem OwnR.alloc {w : World} {base : Nat} {v : Value} {l : List Int} (h : OwnR w base v l) (o : Obj) : OwnR (w.alloc o) base v l := World.ownsRow.alloc h o
theorem OwnR.put {w : World} {base : Nat} {v : Value} {l : List Int} (h : OwnR w base v l) {a : Addr} (ha : a.block < base) (u : Value) : OwnR (w.setCell a u) base v l := ownsRow_setCell_below h ha u
theorem OwnR.below {w w' : World} {base : Nat} {v : Value} {l : List Int} (h : OwnR w base v l) (hb : Below w.heap.size w w') : OwnR w' base v l :=
  World.ownsRow.kept (row := none) h ⟨hb.os, hb.tape, hb.output, hb.size, fun k hk _ => hb.block k hk⟩ (by cases v.ownBlock <;> simp)
theorem OwnR.form {w : World} {base : Nat} {v : Value} {l : List Int} (h : OwnR w base v l) : ∃ a c, v = .slice a l.length c := by
  rcases h.2 with ⟨rfl, h0⟩ | ⟨g, cap, cur, rfl, _⟩
  · exact ⟨none, 0, by rw [h0]⟩
  · exact ⟨_, _, rfl⟩
theorem i32I : (Tryz.prog.info? 21).map (fun i => (i.zero, i.size, i.bytes)) = some (some (.int .i32 0), 1, 4) := by kernel_rfl
theorem append_run_at {ops : Array Oper} {rest : List Oper} {o : Oper} {a : Act} {Q : Exit → Act → World → Prop} {w : World} (hgd : o.guard = none) (s x : Operand)
    (ho : o.op = .call { callee := .builtin .append, args := #[s, x], argTypes := #[23, 23] })
    (base : Nat) (v : Value) (xs : List Int) (hs : a.eval s = v) (hown : OwnR w base v xs) (ad : Addr) (n c : Nat) (l : List Int) (hn : n = l.length) (hx : a.eval x = .slice (some ad) n c) (hc : ∀ j u, (l.map enc32)[j]? = some u → w.cell? (ad.add j) = some u) (hlen : xs.length + l.length ≤ 1000000000) (hbase : base ≤ w.heap.size)
    (h : ∀ v' w', OwnR w' base v' (xs ++ l) → w.grownBy w' v.ownBlock → (v'.ownBlock = v.ownBlock ∨ v'.ownBlock = some w.heap.size) → wpList Tryz.prog ops Q rest (a.put o.dst v') w') : wpList Tryz.prog ops Q (o :: rest) a w := by
  subst hn
  obtain ⟨ie, hi, hz, hsz, hby⟩ := info_parts i32I
  refine wpList_append_own_at w hgd s x 23 ho base 21 ie (.int .i32 0) 1 4 Tryz.underlying23 hi hz hsz hby rfl (by omega) v xs.length (xs.map enc32) hs hown ad l.length c (l.map enc32) hx (by simp) hc one32 (by unfold maxLen; omega) (by omega) hbase ?_
  intro v' w' h1 h2 _ h4
  refine h v' w' ?_ h2 h4
  unfold OwnR
  rw [List.length_append, List.map_append]
  exact h1
theorem one_rune (W : World) (n : Nat) (r : Int) (hn : n = W.heap.size) : ∀ j u, ([r].map enc32)[j]? = some u → (W.alloc (.cells #[.int .i32 r] 21)).cell? ((⟨n, 0, none⟩ : Addr).add j) = some u := by
  subst hn
  exact cell_one_new W (.int .i32 r) 21

/-! ### the reader's eight cells -/
structure RC (w : World) (rb : Nat) (cs : List Value) : Prop where
  cell : ∀ k v, cs[k]? = some v → w.cell? ⟨rb, k, none⟩ = some v
  free : ∀ k, w.frozen? ⟨rb, k, none⟩ = false
  lt : rb < w.heap.size
theorem RC.below {w w' : World} {rb B : Nat} {cs : List Value} (h : RC w rb cs) (hb : Below B w w') (hB : rb < B) : RC w' rb cs :=
  ⟨fun k v hk => (hb.cell (p := ⟨rb, k, none⟩) hB).trans (h.cell k v hk), fun k => (hb.frozen (p := ⟨rb, k, none⟩) hB).trans (h.free k), Nat.lt_of_lt_of_le h.lt hb.size⟩
theorem RC.grown {w w' : World} {rb : Nat} {cs : List Value} {row : Option Nat} (h : RC w rb cs) (hg : w.grownBy w' row) (hr : some rb ≠ row) : RC w' rb cs :=
  ⟨fun k v hk => hg.cell (h.cell k v hk) hr, fun k => (World.frozen?_of_block (w := w) (a := ⟨rb, k, none⟩) (hg.block rb h.lt hr)).trans (h.free k), Nat.lt_of_lt_of_le h.lt hg.size⟩
theorem cell_put {w : World} {b o : Nat} {u v : Value} (h : w.cell? ⟨b, o, none⟩ = some v) : (w.setCell ⟨b, o, none⟩ u).cell? ⟨b, o, none⟩ = some u := by
  unfold World.cell? at h ⊢
  simp only [World.setCell, Array.getElem?_modify, if_true]
  split at h
  · rename_i c t f hh
    rw [hh]
    simp only [Option.map_some]
    have : o < c.size := (Array.getElem?_eq_some_iff.1 h).1
    simp [this]
  · cases h
theorem cell_off {w : World} {b o o' : Nat} {u : Value} (h : o ≠ o') : (w.setCell ⟨b, o, none⟩ u).cell? ⟨b, o', none⟩ = w.cell? ⟨b, o', none⟩ := World.cell?_setCell_other _ _ _ _ (by intro e; simp only [Addr.mk.injEq] at e; omega)
theorem RC.put {w : World} {rb : Nat} {cs : List Value} (h : RC w rb cs) (i : Nat) (u : Value) : RC (w.setCell ⟨rb, i, none⟩ u) rb (cs.set i u) := by
  refine ⟨fun k v hk => ?_, fun k => ?_, by simpa using h.lt⟩
  · by_cases e : i = k
    · subst e
      have hl : i < cs.length := by
        have := (List.getElem?_eq_some_iff.1 hk).1
        simpa using this
      rw [List.getElem?_set_self hl] at hk
      obtain rfl := Option.some.inj hk
      exact cell_put (h.cell i _ (List.getElem?_eq_getElem hl))
    · rw [List.getElem?_set_ne e] at hk
      rw [cell_off e]
      exact h.cell k v hk
  · rw [show (w.setCell ⟨rb, i, none⟩ u).frozen? ⟨rb, k, none⟩ = w.frozen? ⟨rb, k, none⟩ by simp]
    exact h.free k
def RV (xp bs : Value) (s : RS) (vo vm : Value) : List Value := [xp, bs, .int .i64 s.pos, .int .i64 s.g0, .int .i64 s.g1, vo, vm, .int .i64 s.wh]
/-- The reader stands at s: its two rows lie in blocks of their own, below lim. -/
structure RA (wr W : World) (rb lim : Nat) (xp bs : Value) (s : RS) : Prop where
  ex : ∃ vo vm, RC W rb (RV xp bs s vo vm) ∧ OwnR W (rb + 1) vo s.out ∧ OwnR W (rb + 1) vm s.marks ∧ (vo.ownBlock = none ∨ vo.ownBlock ≠ vm.ownBlock) ∧ (∀ g, vo.ownBlock = some g → g < lim) ∧ ∀ g, vm.ownBlock = some g → g < lim
  below : Below rb wr W
theorem RA.go {wr W W' : World} {rb lim lim' : Nat} {xp bs : Value} {s : RS} (h : RA wr W rb lim xp bs s) (hb : Below W.heap.size W W') (hl : lim ≤ lim') : RA wr W' rb lim' xp bs s := by
  obtain ⟨⟨vo, vm, h1, h2, h3, h4, h5, h6⟩, hbl⟩ := h
  exact ⟨⟨vo, vm, h1.below hb h1.lt, h2.below hb, h3.below hb, h4, fun g hg => Nat.lt_of_lt_of_le (h5 g hg) hl, fun g hg => Nat.lt_of_lt_of_le (h6 g hg) hl⟩, hbl.trans (hb.mono (Nat.le_of_lt h1.lt))⟩
end Go.Proofs.YtemhfcgkfdklhaaGreatDoor.Look
