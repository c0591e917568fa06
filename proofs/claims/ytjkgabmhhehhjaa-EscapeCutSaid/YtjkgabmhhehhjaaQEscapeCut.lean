/- The statement EscapeCut over numbers and lists alone ('Pure'), and the walk of the law that follows from it. -/
import Derived.Test.YtjkgabmhhehhjaaPEscapeCutxd
namespace Go.Proofs.Ytjkgabmhhehhjaa.PEscapeCut
open Go.RowKit Go.Proofs.YtjkgabmhhehhjaaW.PrintWords Go.Proofs.YtjkgabmhhehhjaaW.PrintLast Go.Proofs.YtjkgabmhhehhjaaW.PrintMore
def IsRow (k : IntKind) (w : World) (a : Option Addr) (len cap : Nat) (zs : List Int) : Prop :=
  (a = none ∧ len = 0 ∧ cap = 0 ∧ zs = []) ∨
  ∃ x, a = some x ∧ len ≤ cap ∧ cap ≤ maxLen ∧ zs.length = cap ∧ (∀ i, i < zs.length → w.cell? (x.add i) = some (.int k (zs.getD i 0))) ∧ ∀ n ∈ zs, (Lit.int k n).wf = true
def amanuensislaw14_EscapeCut.Pure : Prop := ∀ (a0 : Int) (a1 : Int) (a2 b2 : Int), (Lit.int .u8 a0).wf = true → (Lit.int .u8 a1).wf = true → (Lit.int .i64 a2).wf = true → (Lit.int .i64 b2).wf = true → ∃ k, amanuensislaw14_EscapeCut.f k a0 a1 a2 b2 = some true
theorem amanuensislaw14_EscapeCut.walk (P : amanuensislaw14_EscapeCut.Pure) (a0 : Int) (a1 : Int) (a2 b2 : Int) (w : World) (w0 : (Lit.int .u8 a0).wf = true) (w1 : (Lit.int .u8 a1).wf = true) (w2 : (Lit.int .i64 a2).wf = true) (x2 : (Lit.int .i64 b2).wf = true) :
    Calls Try.prog 9 #[.int .u8 a0, .int .u8 a1, .agg #[.int .i64 a2, .int .i64 b2]] w fun e w' => e = .returned (.bool true) ∧ Below w.heap.size w w' := by
  obtain ⟨k, h⟩ := P a0 a1 a2 b2 w0 w1 w2 x2
  refine (amanuensislaw14_EscapeCut.calls k a0 a1 a2 b2 true rfl w  h).mono ?_
  rintro e w' ⟨rfl, hd⟩
  exact ⟨rfl, hd⟩
end Go.Proofs.Ytjkgabmhhehhjaa.PEscapeCut
