/- The statement EaccRows of layer 12, over numbers and lists alone: ideographs stand ninety-four in a row; behind the last one of a row stands the first one of the next.
   Conditions: none; for every number of the kind uint8. -/
import Derived.Test.YtjkaagidifjjaaaPEaccRowsx3
namespace Go.Proofs.Ytjkaagidifjjaaa.Pure
open Go.RowKit Go.Proofs.Ytjkaagidifjjaaa.PEaccBytes Go.Proofs.Ytjkaagidifjjaaa.PEaccRows Go.Proofs.YtjkaagidifjjaaaW.PrintWords Go.Proofs.YtjkaagidifjjaaaW.PrintLast Go.Proofs.YtjkaagidifjjaaaW.PrintMore
set_option maxRecDepth 100000
theorem w64_in {n : Int} (h1 : -9223372036854775 ≤ n) (h2 : n ≤ 9223372036854775) : wrap64 n = n := by unfold wrap64; omega
theorem u8_wf {a : Int} (h : (Lit.int .u8 a).wf = true) : 0 ≤ a ∧ a ≤ 255 := by
  have h' : IntKind.u8.min ≤ a ∧ a ≤ IntKind.u8.max := by simpa [Lit.wf] using h
  have e1 : IntKind.u8.min = 0 := by decide
  have e2 : IntKind.u8.max = 255 := by decide
  omega
theorem answers_is : amanuensislaw12_answers.f 900 = some true := by
  have : (amanuensislaw12_answers.f 900 == some true) = true := by decide +kernel
  simpa using this
theorem rows_all : ∀ n : Fin 175, (match eacc_Rune.f 900 (2175009 + (n.val : Int) / 94 * 256 + (n.val : Int) % 94) with | some (r, ok) => ok && decide (19968 ≤ r) | none => false) = true := by decide +kernel
theorem behind : (eacc_Rune.f 900 2175346 == some (0, false)) = true := by decide +kernel
theorem EaccRows : amanuensislaw12_EaccRows.Pure := by
  intro n hn
  have h := u8_wf hn
  refine ⟨900, ?_⟩
  unfold amanuensislaw12_EaccRows.f
  have hb : eacc_Rune.f 900 2175346 = some (0, false) := by simpa using behind
  have e1 : Int.tmod (wrap64 n) 175 = n % 175 := by rw [w64_in (by omega) (by omega), Int.tmod_eq_emod_of_nonneg h.1]
  have e2 : wrap64 (wrap64 (2175009 + wrap64 (wrap64 (Int.tdiv (n % 175) 94) * 256)) + Int.tmod (n % 175) 94) = 2175009 + n % 175 / 94 * 256 + n % 175 % 94 := by
    rw [Int.tdiv_eq_ediv_of_nonneg (by omega), Int.tmod_eq_emod_of_nonneg (by omega), w64_in (n := n % 175 / 94) (by omega) (by omega), w64_in (n := n % 175 / 94 * 256) (by omega) (by omega), w64_in (n := 2175009 + n % 175 / 94 * 256) (by omega) (by omega), w64_in (by omega) (by omega)]
  have hr := rows_all ⟨(n % 175).toNat, by omega⟩
  simp only at hr
  rw [Int.toNat_of_nonneg (show 0 ≤ n % 175 by omega)] at hr
  rw [e1, e2, hb, answers_is]
  cases hc : eacc_Rune.f 900 (2175009 + n % 175 / 94 * 256 + n % 175 % 94) with
  | none => rw [hc] at hr; simp at hr
  | some p =>
    rw [hc] at hr
    obtain ⟨r, ok⟩ := p
    simp only [Bool.and_eq_true, decide_eq_true_eq] at hr
    simp [hr.1, hr.2]
end Go.Proofs.Ytjkaagidifjjaaa.Pure
