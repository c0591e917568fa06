/- The statement EscapeAll over numbers and lists alone ('Pure'), and the walk of the law that follows from it. -/
import Derived.Test.YtjkgabmhhehhjaaPEscapeAllx5
namespace Go.Proofs.Ytjkgabmhhehhjaa.PEscapeAll
open Go.RowKit Go.Proofs.YtjkgabmhhehhjaaW.PrintWords Go.Proofs.YtjkgabmhhehhjaaW.PrintLast Go.Proofs.YtjkgabmhhehhjaaW.PrintMore
def IsRow (k : IntKind) (w : World) (a : Option Addr) (len cap : Nat) (zs : List Int) : Prop :=
  (a = none ∧ len = 0 ∧ cap = 0 ∧ zs = []) ∨
  ∃ x, a = some x ∧ len ≤ cap ∧ cap ≤ maxLen ∧ zs.length = cap ∧ (∀ i, i < zs.length → w.cell? (x.add i) = some (.int k (zs.getD i 0))) ∧ ∀ n ∈ zs, (Lit.int k n).wf = true
def amanuensislaw14_EscapeAll.Pure : Prop := ∀ (a0 : Int) (l1 : List Int) (l2 : List Int) (a3 b3 : Int), (Lit.int .u8 a0).wf = true → l1.length ≤ maxLen → l1.length * 1 ≤ 140737488351232 → (∀ x ∈ l1, (Lit.int .u8 x).wf = true) → l2.length ≤ maxLen → l2.length * 1 ≤ 140737488351232 → (∀ x ∈ l2, (Lit.int .u8 x).wf = true) → (Lit.int .i64 a3).wf = true → (Lit.int .i64 b3).wf = true → ∃ k, amanuensislaw14_EscapeAll.f k a0 l1 l2 a3 b3 = some true
theorem amanuensislaw14_EscapeAll.walk (P : amanuensislaw14_EscapeAll.Pure) (a0 : Int) (a1 : Option Addr) (len1 cap1 : Nat) (z1 : List Int) (a2 : Option Addr) (len2 cap2 : Nat) (z2 : List Int) (a3 b3 : Int) (w : World) (w0 : (Lit.int .u8 a0).wf = true) (w1 : IsRow .u8 w a1 len1 cap1 z1) (y1 : len1 * 1 ≤ 140737488351232) (w2 : IsRow .u8 w a2 len2 cap2 z2) (y2 : len2 * 1 ≤ 140737488351232) (w3 : (Lit.int .i64 a3).wf = true) (x3 : (Lit.int .i64 b3).wf = true) :
    Calls Try.prog 8 #[.int .u8 a0, .slice a1 len1 cap1, .slice a2 len2 cap2, .agg #[.int .i64 a3, .int .i64 b3]] w fun e w' => e = .returned (.bool true) ∧ Below w.heap.size w w' := by
  obtain ⟨l1, rfl, hr1, hm1, hw1, hc1⟩ := ReadsInt.ofRowC w1
  obtain ⟨l2, rfl, hr2, hm2, hw2, hc2⟩ := ReadsInt.ofRowC w2
  obtain ⟨k, h⟩ := P a0 l1 l2 a3 b3 w0 hm1 y1 hw1 hm2 y2 hw2 w3 x3
  refine (amanuensislaw14_EscapeAll.calls k a0 _ _ l1 _ _ l2 a3 b3 true rfl w (Kd.C_of_reads (d := (0 : Int)) (h1 := fun _ => rfl) hr1) hc1 (Kd.C_of_reads (d := (0 : Int)) (h1 := fun _ => rfl) hr2) hc2 h).mono ?_
  rintro e w' ⟨rfl, hd⟩
  exact ⟨rfl, hd⟩
end Go.Proofs.Ytjkgabmhhehhjaa.PEscapeAll
