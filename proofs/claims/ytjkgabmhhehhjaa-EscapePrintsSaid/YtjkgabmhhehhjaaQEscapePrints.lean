/- The statement EscapePrints over numbers and lists alone ('Pure'), and the walk of the law that follows from it. -/
import Derived.Test.YtjkgabmhhehhjaaPEscapePrintsx1
namespace Go.Proofs.Ytjkgabmhhehhjaa.PEscapePrints
open Go.RowKit Go.Proofs.YtjkgabmhhehhjaaW.PrintWords Go.Proofs.YtjkgabmhhehhjaaW.PrintLast Go.Proofs.YtjkgabmhhehhjaaW.PrintMore
def IsRow (k : IntKind) (w : World) (a : Option Addr) (len cap : Nat) (zs : List Int) : Prop :=
  (a = none ∧ len = 0 ∧ cap = 0 ∧ zs = []) ∨
  ∃ x, a = some x ∧ len ≤ cap ∧ cap ≤ maxLen ∧ zs.length = cap ∧ (∀ i, i < zs.length → w.cell? (x.add i) = some (.int k (zs.getD i 0))) ∧ ∀ n ∈ zs, (Lit.int k n).wf = true
def amanuensislaw14_EscapePrints.Pure : Prop := ∀ (a0 b0 : Int) (a1 b1 : Int), (Lit.int .i64 a0).wf = true → (Lit.int .i64 b0).wf = true → (Lit.int .i64 a1).wf = true → (Lit.int .i64 b1).wf = true → ∃ k, amanuensislaw14_EscapePrints.f k a0 b0 a1 b1 = some true
theorem amanuensislaw14_EscapePrints.walk (P : amanuensislaw14_EscapePrints.Pure) (a0 b0 : Int) (a1 b1 : Int) (w : World) (w0 : (Lit.int .i64 a0).wf = true) (x0 : (Lit.int .i64 b0).wf = true) (w1 : (Lit.int .i64 a1).wf = true) (x1 : (Lit.int .i64 b1).wf = true) :
    Calls Try.prog 10 #[.agg #[.int .i64 a0, .int .i64 b0], .agg #[.int .i64 a1, .int .i64 b1]] w fun e w' => e = .returned (.bool true) ∧ Below w.heap.size w w' := by
  obtain ⟨k, h⟩ := P a0 b0 a1 b1 w0 x0 w1 x1
  refine (amanuensislaw14_EscapePrints.calls k a0 b0 a1 b1 true w  h).mono ?_
  rintro e w' ⟨rfl, hd⟩
  exact ⟨rfl, hd⟩
end Go.Proofs.Ytjkgabmhhehhjaa.PEscapePrints
