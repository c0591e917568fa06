/- The walk of a law, by its ways: begun as a text of print.sh; mended and parted by programs of this session. -/
import Derived.Test.YtjkgabmhhehhjaaPEscapeCutxa
import Derived.Test.YtjkgabmhhehhjaaPEscapeCutxb
import Derived.Test.YtjkgabmhhehhjaaPEscapeCutxc

namespace Go.Proofs.Ytjkgabmhhehhjaa.PEscapeCut
open Go.Proofs.Ytjkgabmhhehhjaa.PEscapeReads Go.RowKit Go.Proofs.YtjkgabmhhehhjaaW.PrintWords Go.Proofs.YtjkgabmhhehhjaaW.PrintLast Go.Proofs.YtjkgabmhhehhjaaW.PrintMore
attribute [local go_sem] max2_int min2_int max_two min_two max_three min_three max_four min_four   -- for this text's walks alone
set_option linter.unusedVariables false
set_option linter.unusedSimpArgs false

attribute [local go_sem high] eqA30
set_option maxHeartbeats 8000000 in
set_option maxRecDepth 100000 in
theorem amanuensislaw14_EscapeCut.calls (k : Nat) (a0 : Int) (a1 : Int) (a2_0 : Int) (a2_1 : Int) (r : Bool) (hr : r = true) (w : World) (h : amanuensislaw14_EscapeCut.f k a0 a1 a2_0 a2_1 = some r) :
    Calls Try.prog 9 #[.int .u8 a0, .int .u8 a1, .agg #[.int .i64 a2_0, .int .i64 a2_1]] w fun e w' => e = .returned (.bool r) ∧ Below w.heap.size w w' := by
  by_cases hway : ∀ t_, amanuensisref08_Escapes.f k = some t_ → (Int.tmod (wrap64 (a1)) (((rd_T38 t_ (Int.tmod (wrap64 (a0)) (t_.length : Int))).f0).size : Int) = 0)
  · exact amanuensislaw14_EscapeCut.calls1 k a0 a1 a2_0 a2_1 r hr w hway h
  · refine amanuensislaw14_EscapeCut.calls2 k a0 a1 a2_0 a2_1 r hr w (fun t_ ht hx => hway (fun t2 ht2 => ?_)) h
    rw [ht] at ht2
    cases ht2
    exact hx

end Go.Proofs.Ytjkgabmhhehhjaa.PEscapeCut
