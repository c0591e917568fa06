/- The statement EaccBytes of layer 12, over numbers and lists alone: each of the three bytes of a number that is a character's is one of those that may be.
   Conditions: none; for every number of the kind uint32. -/
import Derived.Test.YtjkaagidifjjaaaPEaccBytesx3
namespace Go.Proofs.Ytjkaagidifjjaaa.Pure
open Go.RowKit Go.Proofs.Ytjkaagidifjjaaa.PEaccBytes Go.Proofs.YtjkaagidifjjaaaW.PrintWords Go.Proofs.YtjkaagidifjjaaaW.PrintLast Go.Proofs.YtjkaagidifjjaaaW.PrintMore
set_option maxRecDepth 100000
theorem w64_in {n : Int} (h1 : -9223372036854775 ≤ n) (h2 : n ≤ 9223372036854775) : wrap64 n = n := by unfold wrap64; omega
theorem u32_wf {a : Int} (h : (Lit.int .u32 a).wf = true) : 0 ≤ a ∧ a ≤ 4294967295 := by
  have h' : IntKind.u32.min ≤ a ∧ a ≤ IntKind.u32.max := by simpa [Lit.wf] using h
  have e1 : IntKind.u32.min = 0 := by decide
  have e2 : IntKind.u32.max = 4294967295 := by decide
  omega
theorem answers_is : amanuensislaw12_answers.f 900 = some true := by
  have : (amanuensislaw12_answers.f 900 == some true) = true := by decide +kernel
  simpa using this
/-- Each byte is one that may be. -/
def may (x : Int) : Prop := 33 ≤ x / 65536 ∧ x / 65536 ≤ 126 ∧ 33 ≤ x / 256 % 256 ∧ x / 256 % 256 ≤ 126 ∧ 33 ≤ x % 256 ∧ x % 256 ≤ 126
instance (x : Int) : Decidable (may x) := by unfold may; infer_instance

theorem find_loop (L : List S35) (hL : L.length ≤ 1000) (x : Int) (d : Nat) : ∀ (i k : Nat), i + d = L.length → d < k →
    ∃ r ok, eacc_find.l0 k x L (L.length : Int) (i : Int) = some (r, ok) ∧ (ok = true → ∃ j : Nat, j < L.length ∧ (rd_T35 L (j : Int)).f0 = x) := by
  induction d with
  | zero =>
    intro i k hi hk
    obtain ⟨k, rfl⟩ : ∃ m, k = m + 1 := ⟨k - 1, by omega⟩
    exact ⟨0, false, by rw [eacc_find.l0, if_neg (by omega)], fun h => absurd h (by simp)⟩
  | succ d ih =>
    intro i k hi hk
    obtain ⟨k, rfl⟩ : ∃ m, k = m + 1 := ⟨k - 1, by omega⟩
    have hw : wrap64 ((i : Int) + 1) = ((i + 1 : Nat) : Int) := by rw [w64_in (by omega) (by omega)]; omega
    by_cases hc : (rd_T35 L (i : Int)).f0 = x
    · exact ⟨_, true, by rw [eacc_find.l0, if_pos (by omega), if_pos (by omega), if_pos (by omega), if_pos hc], fun _ => ⟨i, by omega, hc⟩⟩
    · obtain ⟨r, ok, h1, h2⟩ := ih (i + 1) k (by omega) (by omega)
      exact ⟨r, ok, by rw [eacc_find.l0, if_pos (by omega), if_pos (by omega), if_pos (by omega), if_neg hc, hw]; exact h1, h2⟩
/-- The signs, and the others. -/
def tenL : List S35 := [(⟨2171681, 12288⟩ : S35), (⟨2171688, 12289⟩ : S35), (⟨2171689, 12290⟩ : S35), (⟨2171690, 12300⟩ : S35), (⟨2171691, 12301⟩ : S35), (⟨6891052, 12540⟩ : S35)] ++ [(⟨2568225, 19968⟩ : S35), (⟨2568228, 19976⟩ : S35), (⟨2568237, 19992⟩ : S35), (⟨3362337, 12300⟩ : S35)]
theorem ten_may : ∀ j : Fin 10, may (rd_T35 tenL (j.val : Int)).f0 := by decide +kernel
theorem find_is (k : Nat) (hk : 20 ≤ k) (x : Int) : ∃ r ok, eacc_find.f k tenL x = some (r, ok) ∧ (ok = true → may x) := by
  obtain ⟨r, ok, h1, h2⟩ := find_loop tenL (by decide) x 10 0 k rfl (by omega)
  refine ⟨r, ok, h1, fun h => ?_⟩
  obtain ⟨j, hj, hx⟩ := h2 h
  rw [← hx]
  exact ten_may ⟨j, hj⟩
theorem ideo_is (x : Int) (h0 : 0 ≤ x) (h1 : x < 16777216) : ∃ r ok, eacc_ideograph.f x = some (r, ok) ∧ (ok = true → may x) := by
  refine ⟨(ideoI x).1, (ideoI x).2, ?_, ?_⟩
  · unfold eacc_ideograph.f
    rw [if_pos (by omega), if_pos (by omega)]
  · unfold ideoI ideoK may
    rw [i64_and255]
    intro h
    split at h
    · simp at h
    split at h
    · simp at h
    split at h
    · simp at h
    split at h
    · omega
    · simp at h
theorem j1_is (k : Nat) (hk : 21 ≤ k) (x : Int) (h0 : 0 ≤ x) (h1 : x < 16777216) : ∃ r ok, eacc_Rune.j1 k x = some (r, ok) ∧ (ok = true → may x) := by
  obtain ⟨k, rfl⟩ : ∃ m, k = m + 1 := ⟨k - 1, by omega⟩
  obtain ⟨r, ok, hf, hm⟩ := find_is k (by omega) x
  obtain ⟨r2, ok2, hf2, hm2⟩ := ideo_is x h0 h1
  have e : eacc_Rune.j1 (k + 1) x = (eacc_find.f k tenL x).bind fun bt121 => (if bt121.2 = true then (some (bt121.1, true)) else ((eacc_ideograph.f x).bind fun bt123 => (some (bt123.1, bt123.2)))) := rfl
  rw [e, hf, Option.bind_some]
  by_cases ho : ok = true
  · exact ⟨r, true, by rw [if_pos ho], fun _ => hm ho⟩
  · exact ⟨r2, ok2, by rw [if_neg ho, hf2, Option.bind_some], hm2⟩
theorem rune_is (x : Int) (h0 : 0 ≤ x) (h1 : x < 16777216) : ∃ r ok, eacc_Rune.f 900 x = some (r, ok) ∧ (ok = true → may x) := by
  obtain ⟨r, ok, hj, hm⟩ := j1_is 899 (by omega) x h0 h1
  have e : ∀ b, eacc_Rune.j0 (899 + 1) x b = if b = true then (some (wrap32 (12353 + (wrap32 (wrap64 (x - 6890529)))), true)) else (if x ≥ 6890785 then (if x ≤ 6890870 then (some (wrap32 (12449 + (wrap32 (wrap64 (x - 6890785)))), true)) else (eacc_Rune.j1 899 x)) else (eacc_Rune.j1 899 x)) := fun b => by rw [eacc_Rune.j0]
  have out : ∃ r ok, eacc_Rune.j0 (899 + 1) x false = some (r, ok) ∧ (ok = true → may x) := by
    rw [e, if_neg (by simp)]
    by_cases c1 : x ≥ 6890785
    · rw [if_pos c1]
      by_cases c2 : x ≤ 6890870
      · rw [if_pos c2]
        exact ⟨_, true, rfl, fun _ => by unfold may; omega⟩
      · rw [if_neg c2]
        exact ⟨r, ok, hj, hm⟩
    · rw [if_neg c1]
      exact ⟨r, ok, hj, hm⟩
  rw [show (900 : Nat) = 899 + 1 from rfl, eacc_Rune.f]
  by_cases c : x ≥ 6890529
  · rw [if_pos c]
    by_cases c2 : x ≤ 6890611
    · rw [decide_eq_true c2, e, if_pos rfl]
      exact ⟨_, true, rfl, fun _ => by unfold may; omega⟩
    · rw [decide_eq_false c2]
      exact out
  · rw [if_neg c]
    exact out
theorem law_of (n x : Int) (r : Int) (ok : Bool) (hx : wrap64 (Int.tmod n 16777216) = x) (h1 : eacc_Rune.f 900 x = some (r, ok)) (hm : ok = true → may x) : amanuensislaw12_EaccBytes.f 900 n = some true := by
  have h4 := answers_is
  unfold amanuensislaw12_EaccBytes.f
  rw [hx, i64_and255, i64_and255]
  generalize eacc_Rune.f 900 = F at h1 ⊢
  generalize amanuensislaw12_answers.f 900 = A at h4 ⊢
  rw [h1, Option.bind_some, h4]
  simp only [Option.bind_some, if_true]
  unfold may at hm
  cases ok with
  | false => simp
  | true =>
    have := hm rfl
    rw [if_pos (by omega), if_pos (by omega), if_pos (by omega), if_pos (by omega), if_pos (by omega), decide_eq_true (by omega)]
    rfl
theorem EaccBytes : amanuensislaw12_EaccBytes.Pure := by
  intro n hn
  have h := u32_wf hn
  have hx : wrap64 (Int.tmod n 16777216) = n % 16777216 := by rw [Int.tmod_eq_emod_of_nonneg h.1, w64_in (by omega) (by omega)]
  obtain ⟨r, ok, h1, hm⟩ := rune_is (n % 16777216) (by omega) (by omega)
  exact ⟨900, law_of n _ r ok hx h1 hm⟩
end Go.Proofs.Ytjkaagidifjjaaa.Pure
