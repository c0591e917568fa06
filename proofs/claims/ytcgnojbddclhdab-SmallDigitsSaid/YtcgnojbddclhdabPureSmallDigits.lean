/- The statement SmallDigits of layer 11, over numbers alone: all ten digits are there, below and above, each once.
   Conditions: none; for every two numbers of the kind uint8. -/
import Derived.Test.YtcgnojbddclhdabPSmallDigitsx1
namespace Go.Proofs.Ytcgnojbddclhdab.Pure
open Go.RowKit Go.Proofs.Ytcgnojbddclhdab.PSmallDigits Go.Proofs.YtcgnojbddclhdabW.PrintWords Go.Proofs.YtcgnojbddclhdabW.PrintLast

theorem u8_wf {a : Int} (h : (Lit.int .u8 a).wf = true) : 0 ≤ a ∧ a ≤ 255 := by
  have h' : IntKind.u8.min ≤ a ∧ a ≤ IntKind.u8.max := by simpa [Lit.wf] using h
  have e1 : IntKind.u8.min = 0 := by decide
  have e2 : IntKind.u8.max = 255 := by decide
  omega

/-- Only the last digits count. -/
theorem digits_mod (k : Nat) (a b c d : Int) (h1 : Int.tmod a 10 = Int.tmod c 10) (h2 : Int.tmod b 10 = Int.tmod d 10) :
    amanuensislaw11_SmallDigits.f k a b = amanuensislaw11_SmallDigits.f k c d := by
  unfold amanuensislaw11_SmallDigits.f
  rw [h1, h2]

theorem digits_all : ∀ n m : Fin 10, amanuensislaw11_SmallDigits.f 5 (n.val : Int) (m.val : Int) = some true := by decide +kernel

theorem SmallDigits : amanuensislaw11_SmallDigits.Pure := by
  intro a b ha hb
  have ha' := u8_wf ha
  have hb' := u8_wf hb
  refine ⟨5, ?_⟩
  rw [← digits_all ⟨(a % 10).toNat, by omega⟩ ⟨(b % 10).toNat, by omega⟩]
  apply digits_mod
  · rw [Int.tmod_eq_emod_of_nonneg (by omega), Int.tmod_eq_emod_of_nonneg (by omega)]
    show a % 10 = ((a % 10).toNat : Int) % 10
    omega
  · rw [Int.tmod_eq_emod_of_nonneg (by omega), Int.tmod_eq_emod_of_nonneg (by omega)]
    show b % 10 = ((b % 10).toNat : Int) % 10
    omega

end Go.Proofs.Ytcgnojbddclhdab.Pure
