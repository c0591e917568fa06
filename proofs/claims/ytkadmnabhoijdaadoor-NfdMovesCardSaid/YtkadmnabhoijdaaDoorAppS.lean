/- An append of a row that may be nil, to a row of the call's own. -/
import Derived.Laws.OwnMore
import Derived.Test.YtkadmnabhoijdaaDoorNfdV
set_option linter.unusedVariables false
namespace Go.Proofs.YtkadmnabhoijdaaDoor.Nfd
open Go Go.RowKit Go.Shelf Go.Proofs Go.Lib Go.Sort
open Go.Proofs.YtkadmnabhoijdaaDoor.Look Go.Proofs.YtkadmnabhoijdaaDoor.New

theorem append_sln {ops : Array Oper} {rest : List Oper} {o : Oper} {a : Act} {Q : Exit → Act → World → Prop} {w : World} (hgd : o.guard = none) (s x : Operand)
    (ho : o.op = .call { callee := .builtin .append, args := #[s, x], argTypes := #[22, 22] })
    (base : Nat) (v : Value) (xs : List Int) (hs : a.eval s = v) (hown : OwnR w base v xs) (vx : Value) (l : List Int) (hx : a.eval x = vx) (hl : SlN w vx l) (hlen : xs.length + l.length ≤ 1000000000000) (hbase : base ≤ w.heap.size)
    (h : ∀ v' w', OwnR w' base v' (xs ++ l) → w.grownBy w' v.ownBlock → Below base w w' → wpList Tryd.prog ops Q rest (a.put o.dst v') w') : wpList Tryd.prog ops Q (o :: rest) a w := by
  obtain ⟨ie, hi, hz, hsz, hby⟩ := info_parts i21
  rcases hl with ⟨ad, c, rfl, _, hc⟩ | ⟨rfl, rfl⟩
  · refine wpList_append_own w hgd s x 22 ho base 21 ie (.int .i32 0) 1 4 Tryd.underlying22 hi hz hsz hby rfl (by omega) v xs.length (xs.map enc32) hs hown ad l.length c (l.map enc32) hx (by simp) hc one32 (by unfold maxLen; omega) (by omega) hbase ?_
    intro v' w' h1 h2 h3
    refine h v' w' ?_ h2 ((Below.refl _ _).grown h2 hbase fun k hk => (hown.lt k hk).1)
    unfold OwnR
    rw [List.length_append, List.map_append]
    exact h1
  · refine wpList_plain hgd fun K hK => ?_
    have hr := run_append_owned_none (P := Tryd.prog) w base 22 o.type 21 ie 1 Tryd.underlying22 hi v xs.length (xs.map enc32) hown
    unfold Oper.wp execOp
    simp only [ho, resolve, invoke, builtin, Sem.run_bind, Sem.run_pure, Result.andThen_ok, List.map_toArray, List.map_cons, List.map_nil, hs, hx, hr]
    exact hK _ _ (h v w (by simpa using hown) ⟨rfl, rfl, rfl, Nat.le_refl _, fun _ _ _ => rfl⟩ (Below.refl _ _))
/-- An empty row that was just made. -/
theorem OwnR.made (w : World) (base : Nat) (hb : base ≤ w.heap.size) : OwnR (w.alloc (.cells #[] 21)) base (.slice (some ⟨w.heap.size, 0, none⟩) 0 0) [] := World.ownsRow_made w #[] 0 hb (Nat.zero_le _) (by simp)
/-- A row that is kept while the walk goes on. -/
structure StR (w wr : World) (x : Value) (L : List Int) : Prop where
  row : OwnR wr w.heap.size x L
  below : Below w.heap.size w wr
theorem StR.go {w w2 w3 : World} {x : Value} {L : List Int} (h : StR w w2 x L) (hb : Below w2.heap.size w2 w3) : StR w w3 x L := ⟨h.row.below hb, h.below.trans (hb.mono h.below.size)⟩
/-- Another own row has been written. -/
theorem OwnR.kept2 {w w' : World} {base : Nat} {v : Value} {l : List Int} {b : Option Nat} (h : OwnR w base v l) (hg : w.grownBy w' b) (hne : v.ownBlock = none ∨ v.ownBlock ≠ b) : OwnR w' base v l := World.ownsRow.kept h hg hne
end Go.Proofs.YtkadmnabhoijdaaDoor.Nfd
