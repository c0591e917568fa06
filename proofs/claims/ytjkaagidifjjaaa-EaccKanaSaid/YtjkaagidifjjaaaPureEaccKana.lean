/- The statement EaccKana of layer 12, over numbers and lists alone: kana in order, both kinds alike, as far as both go.
   Conditions: none; for every number of the kind uint8. -/
import Derived.Test.YtjkaagidifjjaaaPEaccKanax3
namespace Go.Proofs.Ytjkaagidifjjaaa.Pure
open Go.RowKit Go.Proofs.Ytjkaagidifjjaaa.PEaccBytes Go.Proofs.Ytjkaagidifjjaaa.PEaccKana Go.Proofs.YtjkaagidifjjaaaW.PrintWords Go.Proofs.YtjkaagidifjjaaaW.PrintLast Go.Proofs.YtjkaagidifjjaaaW.PrintMore
set_option maxRecDepth 100000
theorem w64_in {n : Int} (h1 : -9223372036854775 ≤ n) (h2 : n ≤ 9223372036854775) : wrap64 n = n := by unfold wrap64; omega
theorem u8_wf {a : Int} (h : (Lit.int .u8 a).wf = true) : 0 ≤ a ∧ a ≤ 255 := by
  have h' : IntKind.u8.min ≤ a ∧ a ≤ IntKind.u8.max := by simpa [Lit.wf] using h
  have e1 : IntKind.u8.min = 0 := by decide
  have e2 : IntKind.u8.max = 255 := by decide
  omega
theorem answers_is : amanuensislaw12_answers.f 900 = some true := by
  have : (amanuensislaw12_answers.f 900 == some true) = true := by decide +kernel
  simpa using this

/-- All numbers, and their characters. -/
def allL : List (Int × Int) :=
  [(2171681, 12288), (2171688, 12289), (2171689, 12290), (2171690, 12300), (2171691, 12301), (6891052, 12540), (2568225, 19968), (2568228, 19976), (2568237, 19992), (3362337, 12300)] ++
  ((List.range 83).map fun i : Nat => (6890529 + (i : Int), 12353 + (i : Int))) ++ ((List.range 86).map fun i : Nat => (6890785 + (i : Int), 12449 + (i : Int))) ++
  ((List.range 175).map fun i : Nat => (2175009 + (i : Int) / 94 * 256 + (i : Int) % 94, runes.getD i 0))
theorem all_is : ((eacc_all.f 900).map fun l => l.map fun x => (x.f0, x.f1)) = some allL := by decide +kernel
/-- The numbers of a character. -/
def sel (r : Int) (l : List (Int × Int)) : List Int := (l.filter fun x => x.2 == r).map fun x => x.1
theorem sel_nil (r : Int) : sel r [] = [] := rfl
theorem sel_cons (r : Int) (x : Int × Int) (l : List (Int × Int)) : sel r (x :: l) = if x.2 = r then x.1 :: sel r l else sel r l := by
  unfold sel
  by_cases h : x.2 = r
  · simp [h]
  · simp [h]
theorem codes_loop (r : Int) (L : List S35) (hL : L.length ≤ 1000) (d : Nat) : ∀ (i k : Nat) (acc : List Int), i + d = L.length → acc.length ≤ i →
    eacc_Codes.l0 (k + d + 1) r acc L (L.length : Int) (i : Int) = eacc_Codes.l1 k (acc ++ sel r ((L.drop i).map fun x => (x.f0, x.f1))) ((acc ++ sel r ((L.drop i).map fun x => (x.f0, x.f1))).length : Int) 0 := by
  induction d with
  | zero =>
    intro i k acc hi _
    rw [Nat.add_zero, eacc_Codes.l0, if_neg (by omega), List.drop_of_length_le (by omega), List.map_nil, sel_nil, List.append_nil]
  | succ d ih =>
    intro i k acc hi ha
    have hlt : i < L.length := by omega
    have hw : wrap64 ((i : Int) + 1) = ((i + 1 : Nat) : Int) := by rw [w64_in (by omega) (by omega)]; omega
    have hr : rd_T35 L (i : Int) = L[i] := by
      unfold rd_T35
      rw [Int.toNat_natCast, List.getD_eq_getElem?_getD, List.getElem?_eq_getElem hlt]
      rfl
    rw [show k + (d + 1) + 1 = (k + d + 1) + 1 by omega, eacc_Codes.l0, if_pos (by omega), if_pos (by omega), if_pos (by omega), hr, hw, List.drop_eq_getElem_cons hlt, List.map_cons, sel_cons]
    by_cases hc : L[i].f1 = r
    · rw [if_pos hc, if_pos (by omega), if_pos hc, ih (i + 1) k (acc ++ [L[i].f0]) (by omega) (by simp; omega), List.append_assoc]
      rfl
    · rw [if_neg hc, if_neg hc, ih (i + 1) k acc (by omega) (by omega)]
theorem codes_one (k : Nat) (hk : 4 ≤ k) (a : Int) : eacc_Codes.l1 k [a] 1 0 = some [a] := by
  obtain ⟨k, rfl⟩ : ∃ m, k = m + 4 := ⟨k - 4, by omega⟩
  rw [eacc_Codes.l1, if_pos (by omega), eacc_Codes.l2, if_neg (by omega), show wrap64 (0 + 1) = 1 from by unfold wrap64; omega, eacc_Codes.l1, if_neg (by omega)]
theorem codes_is (r a : Int) (h : sel r allL = [a]) : eacc_Codes.f 900 r = some [a] := by
  have hall := all_is
  rw [Option.map_eq_some_iff] at hall
  obtain ⟨L, hf, hL⟩ := hall
  have hlen : L.length = 354 := by
    have : (L.map fun x => (x.f0, x.f1)).length = allL.length := by rw [hL]
    rw [List.length_map] at this
    rw [this]
    decide
  have hloop : eacc_Codes.l0 900 r [] L (L.length : Int) 0 = some [a] := by
    have hc := codes_loop r L (by omega) 354 0 545 [] (by omega) (by simp)
    rw [List.drop_zero, List.nil_append, hL, h, show 545 + 354 + 1 = 900 from rfl, show ((0 : Nat) : Int) = 0 from rfl, show (([a].length : Nat) : Int) = 1 from rfl, codes_one 545 (by omega) a] at hc
    exact hc
  rw [eacc_Codes.f, hf, Option.bind_some, hloop]
theorem sel_kana : ∀ n : Fin 83, sel (12353 + (n.val : Int)) allL = [6890529 + (n.val : Int)] := by decide +kernel
theorem rune_hira : ∀ n : Fin 83, eacc_Rune.f 900 (6890529 + (n.val : Int)) = some (12353 + (n.val : Int), true) := by decide +kernel
theorem rune_kata : ∀ n : Fin 83, eacc_Rune.f 900 (6890785 + (n.val : Int)) = some (12449 + (n.val : Int), true) := by decide +kernel
theorem parts (k : Nat) (hk : k < 83) : eacc_Rune.f 900 (6890529 + (k : Int)) = some (12353 + (k : Int), true) ∧ eacc_Rune.f 900 (6890785 + (k : Int)) = some (12449 + (k : Int), true) ∧ eacc_Codes.f 900 (12353 + (k : Int)) = some [6890529 + (k : Int)] := by
  have h1 := rune_hira ⟨k, hk⟩
  have h2 := rune_kata ⟨k, hk⟩
  have h3 := sel_kana ⟨k, hk⟩
  generalize eacc_Rune.f 900 = F at h1 h2 ⊢
  exact ⟨h1, h2, codes_is (12353 + (k : Int)) (6890529 + (k : Int)) h3⟩
theorem law_of (n m : Int) (r1 r2 : Int) (l : List Int) (hm : Int.tmod (wrap64 n) 83 = m) (h1 : eacc_Rune.f 900 (wrap64 (6890529 + m)) = some (r1, true)) (h2 : eacc_Rune.f 900 (wrap64 (6890785 + m)) = some (r2, true))
    (h3 : eacc_Codes.f 900 r1 = some l) (g1 : r1 = wrap32 (wrap64 (12353 + m))) (g2 : r2 = wrap32 (r1 + 96)) (g3 : (l.length : Int) = 1) (g4 : rd l 0 = wrap64 (6890529 + m)) : amanuensislaw12_EaccKana.f 900 n = some true := by
  have h4 := answers_is
  unfold amanuensislaw12_EaccKana.f
  rw [hm]
  generalize eacc_Rune.f 900 = F at h1 h2 ⊢
  generalize eacc_Codes.f 900 = G at h3 ⊢
  generalize amanuensislaw12_answers.f 900 = A at h4 ⊢
  generalize wrap64 (6890529 + m) = p at h1 g4 ⊢
  generalize wrap64 (6890785 + m) = q at h2 ⊢
  generalize wrap32 (wrap64 (12353 + m)) = u at g1 ⊢
  rw [h1, Option.bind_some, h2, Option.bind_some, h3, Option.bind_some, h4, Option.bind_some, if_pos rfl, if_pos rfl, if_pos rfl, if_pos g1, if_pos g2, if_pos g3, if_pos (by omega), g4, beq_self_eq_true]
theorem EaccKana : amanuensislaw12_EaccKana.Pure := by
  intro n hn
  have h := u8_wf hn
  obtain ⟨k, hk, hk83⟩ : ∃ k : Nat, n % 83 = (k : Int) ∧ k < 83 := ⟨(n % 83).toNat, by omega, by omega⟩
  have e1 : Int.tmod (wrap64 n) 83 = (k : Int) := by rw [w64_in (by omega) (by omega), Int.tmod_eq_emod_of_nonneg h.1, hk]
  obtain ⟨c1, c2, c3⟩ := parts k hk83
  have v1 : wrap64 (6890529 + (k : Int)) = 6890529 + (k : Int) := w64_in (by omega) (by omega)
  have v2 : wrap64 (6890785 + (k : Int)) = 6890785 + (k : Int) := w64_in (by omega) (by omega)
  refine ⟨900, law_of n (k : Int) (12353 + (k : Int)) (12449 + (k : Int)) [6890529 + (k : Int)] e1 (by rw [v1]; exact c1) (by rw [v2]; exact c2) c3 ?_ ?_ (by simp) ?_⟩
  · unfold wrap32 wrap64; omega
  · unfold wrap32; omega
  · rw [v1]
    simp [rd]
end Go.Proofs.Ytjkaagidifjjaaa.Pure
