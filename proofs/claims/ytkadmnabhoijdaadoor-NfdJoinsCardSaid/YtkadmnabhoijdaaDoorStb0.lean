/- slices.stableCmpFunc at runes: its plain part (blocks) and its calls. -/
import Derived.Test.YtkadmnabhoijdaaDoorLayI
import Derived.Test.YtkadmnabhoijdaaDoorSym
set_option linter.unusedVariables false
namespace Go.Proofs.YtkadmnabhoijdaaDoor.Look
open Go Go.RowKit Go.Shelf Go.Proofs Go.Lib Go.Sort
open Go.Proofs.YtkadmnabhoijdaaDoor.Stab

/-- Blocks of one size, each in order; the last may be shorter. -/
inductive Blks (k : Nat) : List Int → Prop
  | last (l : List Int) : l.length ≤ k → Asc kOf l → Blks k l
  | cons (u l : List Int) : u.length = k → Asc kOf u → Blks k l → Blks k (u ++ l)
/-- Whole blocks alone. -/
inductive Full (k : Nat) : List Int → Prop
  | nil : Full k []
  | snoc (X u : List Int) : Full k X → u.length = k → Asc kOf u → Full k (X ++ u)
theorem Full.blks {k : Nat} {X : List Int} (h : Full k X) : ∀ {Y : List Int}, Blks k Y → Blks k (X ++ Y) := by
  induction h with
  | nil => intro Y hY; simpa using hY
  | snoc X u hX hu ha ih => intro Y hY; rw [List.append_assoc]; exact ih (.cons u Y hu ha hY)
theorem Blks.short {k : Nat} {l : List Int} (h : Blks k l) (hl : l.length ≤ k) : Asc kOf l := by
  cases h with
  | last l h1 h2 => exact h2
  | cons u l h1 h2 h3 =>
    have : l = [] := List.eq_nil_of_length_eq_zero (by simp at hl; omega)
    subst this; simpa using h2
theorem asc_nil : Asc kOf [] := List.Pairwise.nil
/-- The first block, and what follows. -/
theorem Blks.first {k : Nat} {l : List Int} (h : Blks k l) (hl : k ≤ l.length) : ∃ u r, l = u ++ r ∧ u.length = k ∧ Asc kOf u ∧ Blks k r := by
  cases h with
  | last l h1 h2 => exact ⟨l, [], by simp, by omega, h2, .last [] (by simp) asc_nil⟩
  | cons u l h1 h2 h3 => exact ⟨u, l, rfl, h1, h2, h3⟩
theorem sortK_len (l : List Int) : (sortK kOf l).length = l.length := ((sortK_ok (k := kOf) l).1).length

theorem insCall (blk off cap a b : Nat) (d0 d : Array Int) (w0 w : World) (A U B : List Int)
    (R : Row1 enc32 w0 blk off d0) (hs : d0.size = d.size) (S : SW enc32 w0 blk off d w) (hd : d.toList = A ++ U ++ B) (hA : A.length = a) (hb : a + U.length = b) (hsz : d.size < 1152921504606846976) :
    Calls Tryd.prog 29 #[.slice (some ⟨blk, off, none⟩) d.size cap, .int .i64 a, .int .i64 b, .func (.func 19) #[] #[]] w fun e w' => e = .returned (.tuple #[]) ∧ ∃ T : Array Int, SW enc32 w0 blk off T w' ∧ T.size = d.size ∧ T.toList = A ++ sortK kOf U ++ B := by
  have eg : ∀ args w, (callFunc 19 args).run Tryd.prog w = .ok (.enter 19 args) w := enters_of Tryd.func19 (by kernel_rfl) rfl
  have hlen : b ≤ d.size := by rw [← Array.length_toList, hd]; simp; omega
  have h := Any.insertionSortCmpFunc_s Tryd.insRune enc32 cfO 19 #[] blk off cap a b d0 d w0 w eg (cmpLays blk off d0.size w0) R hs S (by omega) hlen (by omega)
  refine h.mono ?_
  rintro e w' ⟨rfl, hS⟩
  have hl := ins_list hd hA hb
  exact ⟨rfl, _, hS, by rw [← Array.length_toList, ← Array.length_toList, hl, hd]; simp [sortK_len], hl⟩
end Go.Proofs.YtkadmnabhoijdaaDoor.Look
