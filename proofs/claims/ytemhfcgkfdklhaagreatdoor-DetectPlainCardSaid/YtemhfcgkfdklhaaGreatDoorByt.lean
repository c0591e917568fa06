/- Small laws on a row of bytes of the call's own (as in XShutW, XDesR), for Detect. -/
import Derived.Lib.ConvBytes
import Derived.Laws.Cover3
import Derived.Test.YtemhfcgkfdklhaaGreatDoorRn
set_option linter.all false
namespace Go.Proofs.YtemhfcgkfdklhaaGreatDoor.Look
open Go Go.RowKit Go.Shelf Go.Proofs Go.Proofs.YtemhfcgkfdklhaaGreatDoor.Rd

theorem append_bytes {ops : Array Oper} {rest : List Oper} {o : Oper} {a : Act} {Q : Exit → Act → World → Prop} {w : World} (hgd : o.guard = none) (s x : Operand)
    (ho : o.op = .call { callee := .builtin .append, args := #[s, x], argTypes := #[22, 22] }) (base : Nat) (v : Value) (xs : List Int) (hs : a.eval s = v) (hown : OwnY w base v xs) (vx : Value) (l : List Int) (hx : a.eval x = vx) (hsrc : SrcY w vx l)
    (hlen : xs.length + l.length ≤ 1000000000) (hbase : base ≤ w.heap.size)
    (h : ∀ v' w', OwnY w' base v' (xs ++ l) → Below base w w' → wpList Tryz.prog ops Q rest (a.put o.dst v') w') : wpList Tryz.prog ops Q (o :: rest) a w :=
  wpList_step fun K hK => step_append_bytes hgd s x ho base v xs hs hown vx l hx hsrc hlen hbase fun v' w' h1 h2 _ => hK _ _ (h v' w' h1 h2)
theorem OwnY.base {w : World} {base b2 : Nat} {v : Value} {l : List Int} (h : OwnY w base v l) (hb : b2 ≤ base) : OwnY w b2 v l := by
  refine ⟨h.1, ?_⟩
  rcases h.2 with h0 | ⟨g, cap, cur, h1, h2, h3⟩
  · exact .inl h0
  · exact .inr ⟨g, cap, cur, h1, Nat.le_trans hb h2, h3⟩
theorem OwnY.below {w w' : World} {base : Nat} {v : Value} {l : List Int} (h : OwnY w base v l) (hb : Below w.heap.size w w') : OwnY w' base v l :=
  World.ownsRow.kept (row := none) h ⟨hb.os, hb.tape, hb.output, hb.size, fun k hk _ => hb.block k hk⟩ (by cases v.ownBlock <;> simp)
theorem OwnY.src {w : World} {base : Nat} {v : Value} {l : List Int} (h : OwnY w base v l) : SrcY w v l := by
  obtain ⟨a, c, rfl, h1, _, h3⟩ := h.rowB
  exact h1.src h3
theorem OwnY.capm {w : World} {base : Nat} {a : Option Addr} {n c : Nat} {l : List Int} (h : OwnY w base (.slice a n c) l) : l.length ≤ c ∧ c ≤ 9223372036854775807 ∧ RowB w a l ∧ l.length = n := by
  obtain ⟨a', c', e, h1, h2, _⟩ := h.rowB
  injection e with e1 e2 e3
  subst e1 e3
  refine ⟨h2, ?_, h1, e2.symm⟩
  rcases h.2 with ⟨e, _⟩ | ⟨g, cap, cur, e, _, _, _, h5, _⟩
  · injection e with _ _ e; omega
  · injection e with _ _ e; unfold maxLen at h5; omega
theorem below_alloc {w w1 : World} (h : Below w.heap.size w w1) (o : Obj) : Below w.heap.size w (w1.alloc o) := h.alloc h.size o
theorem eqlNilY (w : World) (a : Option Addr) (n c : Nat) : (binOp .eql 22 (.slice a n c) (.slice none 0 0)).run Tryz.prog w = .ok (.bool a.isNone) w := Lib.run_eql_slice_nil w 22 5 a n c 0 0 Tryz.underlying22
end Go.Proofs.YtemhfcgkfdklhaaGreatDoor.Look
