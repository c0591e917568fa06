import Derived.Test.YtjkgabmhhehhjaaQEscapeCut
namespace Go.Proofs.Ytjkgabmhhehhjaa.Pure
open Go.RowKit Go.Proofs.Ytjkgabmhhehhjaa.PEscapeReads Go.Proofs.Ytjkgabmhhehhjaa.PEscapeCut Go.Proofs.YtjkgabmhhehhjaaW.PrintWords Go.Proofs.YtjkgabmhhehhjaaW.PrintLast Go.Proofs.YtjkgabmhhehhjaaW.PrintMore
set_option maxRecDepth 100000
set_option linter.unusedSimpArgs false
set_option linter.unusedVariables false

def pats : List (List Int × Int × Int) :=
  [([27,40,66],0,1),([27,44,66],0,1),([27,41,66],1,1),([27,45,66],1,1),
   ([27,40,33,69],0,2),([27,44,33,69],0,2),([27,41,33,69],1,2),([27,45,33,69],1,2),
   ([27,40,83],0,3),([27,44,83],0,3),([27,41,83],1,3),([27,45,83],1,3),
   ([27,40,50],0,4),([27,44,50],0,4),([27,41,50],1,4),([27,45,50],1,4),
   ([27,40,51],0,5),([27,44,51],0,5),([27,41,51],1,5),([27,45,51],1,5),
   ([27,40,52],0,6),([27,44,52],0,6),([27,41,52],1,6),([27,45,52],1,6),
   ([27,40,78],0,7),([27,44,78],0,7),([27,41,78],1,7),([27,45,78],1,7),
   ([27,40,81],0,8),([27,44,81],0,8),([27,41,81],1,8),([27,45,81],1,8),
   ([27,36,49],0,9),([27,36,44,49],0,9),([27,36,41,49],1,9),([27,36,45,49],1,9),
   ([27,98],0,10),([27,112],0,11),([27,103],0,12),([27,115],0,1)]

def mk (p : List Int × Int × Int) : S38 := ⟨strOfNums p.1, p.2.1, p.2.2⟩

theorem escapes99 : amanuensisref08_Escapes.f 99 = some (pats.map mk) := by kernel_rfl
theorem w64_in {n : Int} (h0 : -9223372036854775808 ≤ n) (h1 : n < 9223372036854775808) : wrap64 n = n := by
  unfold wrap64; omega
theorem u8_wf {a : Int} (h : (Lit.int .u8 a).wf = true) : 0 ≤ a ∧ a < 256 := by
  have h' : IntKind.u8.min ≤ a ∧ a ≤ IntKind.u8.max := by simpa [Lit.wf] using h
  have e1 : IntKind.u8.min = 0 := by decide
  have e2 : IntKind.u8.max = 255 := by decide
  omega
theorem j0_fail (k : Nat) (l : List Int) (a : Int) (b : Bool) (s0 s1 e p : Int) (h : escape_Next.j0 k l a b 0 0 = some (0, 0, 0, e, p)) (he : e ≠ 0) : escape_Next.j0 k l a b s0 s1 = some (0, 0, 0, e, p) := by
  cases k with
  | zero => simp [escape_Next.j0] at h
  | succ k =>
    rw [escape_Next.j0] at h ⊢
    cases hp : escape_parse.f k (l.drop ((wrap64 (a + 1)) : Int).toNat) with
    | none =>
      simp only [hp, Option.bind_none] at h ⊢
      exact h
    | some r =>
      simp only [hp, Option.bind_some] at h ⊢
      by_cases hb : b = true
      · simp only [hb, if_true] at h ⊢; exact h
      · simp only [hb, if_false] at h ⊢
        by_cases c1 : 0 ≤ wrap64 (a + 1)
        · by_cases c2 : wrap64 (a + 1) ≤ (l.length : Int)
          · by_cases c3 : r.2.2 = 0
            · simp only [c1, c2, c3, if_true] at h ⊢; exact h
            · exfalso
              by_cases c4 : r.1 = 0
              · simp only [c1, c2, c3, c4, if_true, if_false, Bool.false_eq_true, Option.some.injEq, Prod.mk.injEq] at h
                exact he h.2.2.2.1.symm
              · simp only [c1, c2, c3, c4, if_true, if_false, Bool.false_eq_true, Option.some.injEq, Prod.mk.injEq] at h
                exact he h.2.2.2.1.symm
          · simp [c1, c2] at h
        · simp [c1] at h

theorem next_fail (k : Nat) (l : List Int) (a : Int) (s0 s1 e p : Int) (h : escape_Next.f k l a 0 0 = some (0, 0, 0, e, p)) (he : e ≠ 0) : escape_Next.f k l a s0 s1 = some (0, 0, 0, e, p) := by
  unfold escape_Next.f at h ⊢
  by_cases c1 : a < 0
  · rw [if_pos c1] at h ⊢; exact j0_fail _ _ _ _ _ _ _ _ h he
  · rw [if_neg c1] at h ⊢
    by_cases c2 : a ≥ (l.length : Int)
    · rw [if_pos c2] at h ⊢; exact j0_fail _ _ _ _ _ _ _ _ h he
    · rw [if_neg c2] at h ⊢
      by_cases c3 : 0 ≤ a
      · rw [if_pos c3] at h ⊢
        by_cases c4 : a < (l.length : Int)
        · rw [if_pos c4] at h ⊢; exact j0_fail _ _ _ _ _ _ _ _ h he
        · rw [if_neg c4] at h; exact absurd h (by simp)
      · rw [if_neg c3] at h; exact absurd h (by simp)

def esc (i : Nat) : ByteArray := (rd_T38 (pats.map mk) (i : Int)).f0

theorem cut_all : ∀ i : Fin 40, ∀ c : Fin 4, (1 ≤ c.val ∧ c.val < (esc i.val).size) → escape_Next.f 99 (bytesOf ((⟨#[97]⟩ : ByteArray) ++ (esc i.val).extract 0 c.val)) 1 0 0 = some (0, 0, 0, 5, 1) := by decide +kernel
theorem whole_all : ∀ i : Fin 40, escape_Next.f 99 (bytesOf (esc i.val)) 1 0 0 = some (0, 0, 0, 1, 1) := by decide +kernel
theorem size_all : ∀ i : Fin 40, 2 ≤ (esc i.val).size ∧ (esc i.val).size ≤ 4 := by decide +kernel
theorem answers99 : amanuensislaw14_answers.f 99 = some true := by kernel_rfl

theorem EscapeCut : amanuensislaw14_EscapeCut.Pure := by
  intro a0 a1 a2 b2 w0 w1 _ _
  have u0 := u8_wf w0
  have u1 := u8_wf w1
  refine ⟨99, ?_⟩
  have hw0 : wrap64 a0 = a0 := w64_in (by omega) (by omega)
  have hw1 : wrap64 a1 = a1 := w64_in (by omega) (by omega)
  have hlen : ((pats.map mk).length : Int) = 40 := by simp [pats]
  obtain ⟨i, hi, hji⟩ : ∃ i : Nat, i < 40 ∧ Int.tmod a0 40 = (i : Int) := ⟨(a0 % 40).toNat, by omega, by rw [Int.tmod_eq_emod_of_nonneg u0.1]; omega⟩
  have hsz := size_all ⟨i, hi⟩
  have hcut := cut_all ⟨i, hi⟩
  have hwh := whole_all ⟨i, hi⟩
  simp only at hsz hcut hwh
  unfold amanuensislaw14_EscapeCut.f
  rw [escapes99]
  simp only [Option.bind_some, hlen, hw0, hw1, hji]
  have hE : (rd_T38 (pats.map mk) (i : Int)).f0 = esc i := rfl
  simp only [hE]
  generalize esc i = b at hsz hcut hwh
  have c1 : ¬ ((40 : Int) = 0) := by decide
  have c2 : (0 : Int) ≤ (i : Int) := by omega
  have c3 : (i : Int) < 40 := by omega
  have c4 : ¬ ((b.size : Int) = 0) := by omega
  have hb : b.size ≤ 9223372036854775807 := by omega
  simp only [c1, c2, c3, c4, if_true, if_false, answers99, Option.bind_some]
  have n2 := next_fail 99 (bytesOf b) 1 a2 b2 1 1 hwh (by decide)
  obtain ⟨m, hm, hjm⟩ : ∃ m : Nat, m < b.size ∧ Int.tmod a1 (b.size : Int) = (m : Int) := by
    have hp : (0 : Int) < (b.size : Int) := by omega
    have h1 := Int.emod_lt_of_pos a1 hp
    have h2 := Int.emod_nonneg a1 (by omega : (b.size : Int) ≠ 0)
    exact ⟨(a1 % (b.size : Int)).toNat, by omega, by rw [Int.tmod_eq_emod_of_nonneg u1.1]; omega⟩
  simp only [hjm]
  by_cases hm0 : (m : Int) = 0
  · have q1 := hcut ⟨1, by decide⟩ ⟨Nat.le_refl _, show 1 < b.size by omega⟩
    simp only at q1
    have n1 := next_fail 99 _ 1 a2 b2 5 1 q1 (by decide)
    have d1 : (0 : Int) ≤ 1 := by decide
    have d2 : (1 : Int) ≤ (b.size : Int) := by omega
    have d3 : 1 + (b.extract 0 1).size ≤ 9223372036854775807 := by rw [ByteArray.size_extract]; omega
    have d4 : ((⟨#[97]⟩ : ByteArray) ++ b.extract 0 1).size ≤ 9223372036854775807 := by rw [ByteArray.size_append, ByteArray.size_extract]; show 1 + _ ≤ _; omega
    simp only [hm0, if_true, d1, d2, d3, d4, hb, n1, n2, Option.bind_some]
    rfl
  · have q1 := hcut ⟨m, by omega⟩ ⟨show 1 ≤ m by omega, hm⟩
    simp only at q1
    have n1 := next_fail 99 _ 1 a2 b2 5 1 q1 (by decide)
    have d1 : (0 : Int) ≤ (m : Int) := by omega
    have d2 : (m : Int) ≤ (b.size : Int) := by omega
    have dt : (m : Int).toNat = m := by omega
    have d3 : 1 + (b.extract 0 m).size ≤ 9223372036854775807 := by rw [ByteArray.size_extract]; omega
    have d4 : ((⟨#[97]⟩ : ByteArray) ++ b.extract 0 m).size ≤ 9223372036854775807 := by rw [ByteArray.size_append, ByteArray.size_extract]; show 1 + _ ≤ _; omega
    simp only [hm0, if_true, if_false, d1, d2, dt, d3, d4, hb, n1, n2, Option.bind_some]
    rfl
end Go.Proofs.Ytjkgabmhhehhjaa.Pure
