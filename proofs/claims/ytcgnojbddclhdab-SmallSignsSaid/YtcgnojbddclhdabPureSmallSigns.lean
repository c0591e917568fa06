/- The statement SmallSigns of layer 11, over numbers alone: brackets, plus and minus, and the digits, below and above, and three Greek letters; nothing else.
   Conditions: none; for every two numbers of the kind uint8. -/
import Derived.Test.YtcgnojbddclhdabPSmallSignsx2
namespace Go.Proofs.Ytcgnojbddclhdab.Pure
open Go.RowKit Go.Proofs.Ytcgnojbddclhdab.PSmallSigns Go.Proofs.YtcgnojbddclhdabW.PrintWords Go.Proofs.YtcgnojbddclhdabW.PrintLast

theorem u8_wf {a : Int} (h : (Lit.int .u8 a).wf = true) : 0 ≤ a ∧ a ≤ 255 := by
  have h' : IntKind.u8.min ≤ a ∧ a ≤ IntKind.u8.max := by simpa [Lit.wf] using h
  have e1 : IntKind.u8.min = 0 := by decide
  have e2 : IntKind.u8.max = 255 := by decide
  omega

/-- Of the set only the rest by three counts. -/
theorem signs_mod (k : Nat) (a b d : Int) (h2 : Int.tmod b 3 = Int.tmod d 3) : amanuensislaw11_SmallSigns.f k a b = amanuensislaw11_SmallSigns.f k a d := by
  unfold amanuensislaw11_SmallSigns.f
  rw [h2]

theorem signs_all : ∀ (n : Fin 256) (m : Fin 3), amanuensislaw11_SmallSigns.f 6 (n.val : Int) (m.val : Int) = some true := by decide +kernel

theorem SmallSigns : amanuensislaw11_SmallSigns.Pure := by
  intro a b ha hb
  have ha' := u8_wf ha
  have hb' := u8_wf hb
  refine ⟨6, ?_⟩
  have e : ((a.toNat : Nat) : Int) = a := by omega
  have := signs_all ⟨a.toNat, by omega⟩ ⟨(b % 3).toNat, by omega⟩
  simp only [e] at this
  rw [← this]
  apply signs_mod
  rw [Int.tmod_eq_emod_of_nonneg (by omega), Int.tmod_eq_emod_of_nonneg (by omega)]
  omega

end Go.Proofs.Ytcgnojbddclhdab.Pure
