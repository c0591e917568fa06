/- The walk of a law, by its ways: begun as a text of print.sh; mended and parted by programs of this session. -/
import Derived.Test.YtjkgabmhhehhjaaPEscapeCutxa

namespace Go.Proofs.Ytjkgabmhhehhjaa.PEscapeCut
open Go.Proofs.Ytjkgabmhhehhjaa.PEscapeReads Go.RowKit Go.Proofs.YtjkgabmhhehhjaaW.PrintWords Go.Proofs.YtjkgabmhhehhjaaW.PrintLast Go.Proofs.YtjkgabmhhehhjaaW.PrintMore
attribute [local go_sem] max2_int min2_int max_two min_two max_three min_three max_four min_four   -- for this text's walks alone
set_option linter.unusedVariables false
set_option linter.unusedSimpArgs false

attribute [local go_sem high] eqA30
set_option maxHeartbeats 8000000 in
set_option maxRecDepth 100000 in
theorem amanuensislaw14_EscapeCut.calls2 (k : Nat) (a0 : Int) (a1 : Int) (a2_0 : Int) (a2_1 : Int) (r : Bool) (hr : r = true) (w : World) (hway : ∀ t_, amanuensisref08_Escapes.f k = some t_ → ¬ (Int.tmod (wrap64 (a1)) (((rd_T38 t_ (Int.tmod (wrap64 (a0)) (t_.length : Int))).f0).size : Int) = 0)) (h : amanuensislaw14_EscapeCut.f k a0 a1 a2_0 a2_1 = some r) :
    Calls Try.prog 9 #[.int .u8 a0, .int .u8 a1, .agg #[.int .i64 a2_0, .int .i64 a2_1]] w fun e w' => e = .returned (.bool r) ∧ Below w.heap.size w w' := by
  replace hr := Aside0.mk hr
  have hu27 := Try.underlying27
  have hu38 := Try.underlying38
  have hu30 := Try.underlying30
  have HB := Aside0.mk (Below.refl w.heap.size w)
  have H : ((amanuensisref08_Escapes.f k).bind fun t171 => (if (t171.length : Int) = 0 then (none) else (if 0 ≤ (Int.tmod (wrap64 (a0)) (t171.length : Int)) then (if (Int.tmod (wrap64 (a0)) (t171.length : Int)) < (t171.length : Int) then (if (((rd_T38 t171 (Int.tmod (wrap64 (a0)) (t171.length : Int))).f0).size : Int) = 0 then (none) else (if (Int.tmod (wrap64 (a1)) (((rd_T38 t171 (Int.tmod (wrap64 (a0)) (t171.length : Int))).f0).size : Int)) = 0 then (if 0 ≤ 1 then (if 1 ≤ (((rd_T38 t171 (Int.tmod (wrap64 (a0)) (t171.length : Int))).f0).size : Int) then (if 1 + (((rd_T38 t171 (Int.tmod (wrap64 (a0)) (t171.length : Int))).f0).extract 0 1).size ≤ 9223372036854775807 then ((if ((⟨#[97]⟩ : ByteArray) ++ ((rd_T38 t171 (Int.tmod (wrap64 (a0)) (t171.length : Int))).f0).extract 0 1).size ≤ 9223372036854775807 then (escape_Next.f k (bytesOf ((⟨#[97]⟩ : ByteArray) ++ ((rd_T38 t171 (Int.tmod (wrap64 (a0)) (t171.length : Int))).f0).extract 0 1)) 1 a2_0 a2_1) else none).bind fun bt179 => ((if ((rd_T38 t171 (Int.tmod (wrap64 (a0)) (t171.length : Int))).f0).size ≤ 9223372036854775807 then (escape_Next.f k (bytesOf ((rd_T38 t171 (Int.tmod (wrap64 (a0)) (t171.length : Int))).f0)) 1 a2_0 a2_1) else none).bind fun bt189 => ((amanuensislaw14_answers.f k).bind fun t197 => (if t197 = true then (if bt179.2.2.1 = 0 then (if (bt179.2.2.2.1 == 5 && (bt179.2.2.2.2 == 1)) = true then (if bt189.2.2.1 = 0 then (some (bt189.2.2.2.1 == 1 && (bt189.2.2.2.2 == 1))) else (some false)) else (some false)) else (some false)) else (some false))))) else (none)) else (none)) else (none)) else (if 0 ≤ (Int.tmod (wrap64 (a1)) (((rd_T38 t171 (Int.tmod (wrap64 (a0)) (t171.length : Int))).f0).size : Int)) then (if (Int.tmod (wrap64 (a1)) (((rd_T38 t171 (Int.tmod (wrap64 (a0)) (t171.length : Int))).f0).size : Int)) ≤ (((rd_T38 t171 (Int.tmod (wrap64 (a0)) (t171.length : Int))).f0).size : Int) then (if 1 + (((rd_T38 t171 (Int.tmod (wrap64 (a0)) (t171.length : Int))).f0).extract 0 ((Int.tmod (wrap64 (a1)) (((rd_T38 t171 (Int.tmod (wrap64 (a0)) (t171.length : Int))).f0).size : Int)) : Int).toNat).size ≤ 9223372036854775807 then ((if ((⟨#[97]⟩ : ByteArray) ++ ((rd_T38 t171 (Int.tmod (wrap64 (a0)) (t171.length : Int))).f0).extract 0 ((Int.tmod (wrap64 (a1)) (((rd_T38 t171 (Int.tmod (wrap64 (a0)) (t171.length : Int))).f0).size : Int)) : Int).toNat).size ≤ 9223372036854775807 then (escape_Next.f k (bytesOf ((⟨#[97]⟩ : ByteArray) ++ ((rd_T38 t171 (Int.tmod (wrap64 (a0)) (t171.length : Int))).f0).extract 0 ((Int.tmod (wrap64 (a1)) (((rd_T38 t171 (Int.tmod (wrap64 (a0)) (t171.length : Int))).f0).size : Int)) : Int).toNat)) 1 a2_0 a2_1) else none).bind fun bt201 => ((if ((rd_T38 t171 (Int.tmod (wrap64 (a0)) (t171.length : Int))).f0).size ≤ 9223372036854775807 then (escape_Next.f k (bytesOf ((rd_T38 t171 (Int.tmod (wrap64 (a0)) (t171.length : Int))).f0)) 1 a2_0 a2_1) else none).bind fun bt211 => ((amanuensislaw14_answers.f k).bind fun t219 => (if t219 = true then (if bt201.2.2.1 = 0 then (if (bt201.2.2.2.1 == 5 && (bt201.2.2.2.2 == 1)) = true then (if bt211.2.2.1 = 0 then (some (bt211.2.2.2.1 == 1 && (bt211.2.2.2.2 == 1))) else (some false)) else (some false)) else (some false)) else (some false))))) else (none)) else (none)) else (none)))) else (none)) else (none)))) = some r := h
  clear h
  replace H := Option.bind_eq_some_iff.mp H
  obtain ⟨t171, A40, H⟩ := H
  replace H : (if (t171.length : Int) = 0 then (none) else (if 0 ≤ (Int.tmod (wrap64 (a0)) (t171.length : Int)) then (if (Int.tmod (wrap64 (a0)) (t171.length : Int)) < (t171.length : Int) then (if (((rd_T38 t171 (Int.tmod (wrap64 (a0)) (t171.length : Int))).f0).size : Int) = 0 then (none) else (if (Int.tmod (wrap64 (a1)) (((rd_T38 t171 (Int.tmod (wrap64 (a0)) (t171.length : Int))).f0).size : Int)) = 0 then (if 0 ≤ 1 then (if 1 ≤ (((rd_T38 t171 (Int.tmod (wrap64 (a0)) (t171.length : Int))).f0).size : Int) then (if 1 + (((rd_T38 t171 (Int.tmod (wrap64 (a0)) (t171.length : Int))).f0).extract 0 1).size ≤ 9223372036854775807 then ((if ((⟨#[97]⟩ : ByteArray) ++ ((rd_T38 t171 (Int.tmod (wrap64 (a0)) (t171.length : Int))).f0).extract 0 1).size ≤ 9223372036854775807 then (escape_Next.f k (bytesOf ((⟨#[97]⟩ : ByteArray) ++ ((rd_T38 t171 (Int.tmod (wrap64 (a0)) (t171.length : Int))).f0).extract 0 1)) 1 a2_0 a2_1) else none).bind fun bt179 => ((if ((rd_T38 t171 (Int.tmod (wrap64 (a0)) (t171.length : Int))).f0).size ≤ 9223372036854775807 then (escape_Next.f k (bytesOf ((rd_T38 t171 (Int.tmod (wrap64 (a0)) (t171.length : Int))).f0)) 1 a2_0 a2_1) else none).bind fun bt189 => ((amanuensislaw14_answers.f k).bind fun t197 => (if t197 = true then (if bt179.2.2.1 = 0 then (if (bt179.2.2.2.1 == 5 && (bt179.2.2.2.2 == 1)) = true then (if bt189.2.2.1 = 0 then (some (bt189.2.2.2.1 == 1 && (bt189.2.2.2.2 == 1))) else (some false)) else (some false)) else (some false)) else (some false))))) else (none)) else (none)) else (none)) else (if 0 ≤ (Int.tmod (wrap64 (a1)) (((rd_T38 t171 (Int.tmod (wrap64 (a0)) (t171.length : Int))).f0).size : Int)) then (if (Int.tmod (wrap64 (a1)) (((rd_T38 t171 (Int.tmod (wrap64 (a0)) (t171.length : Int))).f0).size : Int)) ≤ (((rd_T38 t171 (Int.tmod (wrap64 (a0)) (t171.length : Int))).f0).size : Int) then (if 1 + (((rd_T38 t171 (Int.tmod (wrap64 (a0)) (t171.length : Int))).f0).extract 0 ((Int.tmod (wrap64 (a1)) (((rd_T38 t171 (Int.tmod (wrap64 (a0)) (t171.length : Int))).f0).size : Int)) : Int).toNat).size ≤ 9223372036854775807 then ((if ((⟨#[97]⟩ : ByteArray) ++ ((rd_T38 t171 (Int.tmod (wrap64 (a0)) (t171.length : Int))).f0).extract 0 ((Int.tmod (wrap64 (a1)) (((rd_T38 t171 (Int.tmod (wrap64 (a0)) (t171.length : Int))).f0).size : Int)) : Int).toNat).size ≤ 9223372036854775807 then (escape_Next.f k (bytesOf ((⟨#[97]⟩ : ByteArray) ++ ((rd_T38 t171 (Int.tmod (wrap64 (a0)) (t171.length : Int))).f0).extract 0 ((Int.tmod (wrap64 (a1)) (((rd_T38 t171 (Int.tmod (wrap64 (a0)) (t171.length : Int))).f0).size : Int)) : Int).toNat)) 1 a2_0 a2_1) else none).bind fun bt201 => ((if ((rd_T38 t171 (Int.tmod (wrap64 (a0)) (t171.length : Int))).f0).size ≤ 9223372036854775807 then (escape_Next.f k (bytesOf ((rd_T38 t171 (Int.tmod (wrap64 (a0)) (t171.length : Int))).f0)) 1 a2_0 a2_1) else none).bind fun bt211 => ((amanuensislaw14_answers.f k).bind fun t219 => (if t219 = true then (if bt201.2.2.1 = 0 then (if (bt201.2.2.2.1 == 5 && (bt201.2.2.2.2 == 1)) = true then (if bt211.2.2.1 = 0 then (some (bt211.2.2.2.1 == 1 && (bt211.2.2.2.2 == 1))) else (some false)) else (some false)) else (some false)) else (some false))))) else (none)) else (none)) else (none)))) else (none)) else (none))) = some r := H
  have A4 := Aside0.mk A40
  clear A40
  by_cases c5 : (t171.length : Int) = 0
  · rw [if_pos c5] at H
    exact absurd H (by simp)
  · rw [if_neg c5] at H
    have c5b0 : ((t171.length : Int) == 0) = false := beq_eq_false_iff_ne.mpr c5
    have c5b1 : ((t171.length : Int) != 0) = true := bne_iff_ne.mpr c5
    have c5b2 : ¬ (t171 = []) := fun h_ => c5 (by rw [h_]; rfl)
    obtain ⟨ji6, hji6⟩ : ∃ j_ : Int, (Int.tmod (wrap64 (a0)) (t171.length : Int)) = j_ := ⟨_, rfl⟩
    replace H : (if 0 ≤ (ji6) then (if (ji6) < (t171.length : Int) then (if (((rd_T38 t171 (ji6)).f0).size : Int) = 0 then (none) else (if (Int.tmod (wrap64 (a1)) (((rd_T38 t171 (ji6)).f0).size : Int)) = 0 then (if 0 ≤ 1 then (if 1 ≤ (((rd_T38 t171 (ji6)).f0).size : Int) then (if 1 + (((rd_T38 t171 (ji6)).f0).extract 0 1).size ≤ 9223372036854775807 then ((if ((⟨#[97]⟩ : ByteArray) ++ ((rd_T38 t171 (ji6)).f0).extract 0 1).size ≤ 9223372036854775807 then (escape_Next.f k (bytesOf ((⟨#[97]⟩ : ByteArray) ++ ((rd_T38 t171 (ji6)).f0).extract 0 1)) 1 a2_0 a2_1) else none).bind fun bt179 => ((if ((rd_T38 t171 (ji6)).f0).size ≤ 9223372036854775807 then (escape_Next.f k (bytesOf ((rd_T38 t171 (ji6)).f0)) 1 a2_0 a2_1) else none).bind fun bt189 => ((amanuensislaw14_answers.f k).bind fun t197 => (if t197 = true then (if bt179.2.2.1 = 0 then (if (bt179.2.2.2.1 == 5 && (bt179.2.2.2.2 == 1)) = true then (if bt189.2.2.1 = 0 then (some (bt189.2.2.2.1 == 1 && (bt189.2.2.2.2 == 1))) else (some false)) else (some false)) else (some false)) else (some false))))) else (none)) else (none)) else (none)) else (if 0 ≤ (Int.tmod (wrap64 (a1)) (((rd_T38 t171 (ji6)).f0).size : Int)) then (if (Int.tmod (wrap64 (a1)) (((rd_T38 t171 (ji6)).f0).size : Int)) ≤ (((rd_T38 t171 (ji6)).f0).size : Int) then (if 1 + (((rd_T38 t171 (ji6)).f0).extract 0 ((Int.tmod (wrap64 (a1)) (((rd_T38 t171 (ji6)).f0).size : Int)) : Int).toNat).size ≤ 9223372036854775807 then ((if ((⟨#[97]⟩ : ByteArray) ++ ((rd_T38 t171 (ji6)).f0).extract 0 ((Int.tmod (wrap64 (a1)) (((rd_T38 t171 (ji6)).f0).size : Int)) : Int).toNat).size ≤ 9223372036854775807 then (escape_Next.f k (bytesOf ((⟨#[97]⟩ : ByteArray) ++ ((rd_T38 t171 (ji6)).f0).extract 0 ((Int.tmod (wrap64 (a1)) (((rd_T38 t171 (ji6)).f0).size : Int)) : Int).toNat)) 1 a2_0 a2_1) else none).bind fun bt201 => ((if ((rd_T38 t171 (ji6)).f0).size ≤ 9223372036854775807 then (escape_Next.f k (bytesOf ((rd_T38 t171 (ji6)).f0)) 1 a2_0 a2_1) else none).bind fun bt211 => ((amanuensislaw14_answers.f k).bind fun t219 => (if t219 = true then (if bt201.2.2.1 = 0 then (if (bt201.2.2.2.1 == 5 && (bt201.2.2.2.2 == 1)) = true then (if bt211.2.2.1 = 0 then (some (bt211.2.2.2.1 == 1 && (bt211.2.2.2.2 == 1))) else (some false)) else (some false)) else (some false)) else (some false))))) else (none)) else (none)) else (none)))) else (none)) else (none)) = some r := by first | (rw [hji6] at H; exact H) | (simp only [hji6] at H ⊢; exact H)
    (try rw [hji6] at A4)
    by_cases c7 : 0 ≤ (ji6)
    · rw [if_pos c7] at H
      have c7b0 : decide (0 ≤ (ji6)) = true := decide_eq_true c7
      clear c7
      by_cases c8 : (ji6) < (t171.length : Int)
      · rw [if_pos c8] at H
        have c8b0 : decide ((ji6) < (t171.length : Int)) = true := decide_eq_true c8
        clear c8
        by_cases c9 : (((rd_T38 t171 (ji6)).f0).size : Int) = 0
        · rw [if_pos c9] at H
          exact absurd H (by simp)
        · rw [if_neg c9] at H
          have c9b0 : ((((rd_T38 t171 (ji6)).f0).size : Int) == 0) = false := beq_eq_false_iff_ne.mpr c9
          have c9b1 : ((((rd_T38 t171 (ji6)).f0).size : Int) != 0) = true := bne_iff_ne.mpr c9
          by_cases c10 : (Int.tmod (wrap64 (a1)) (((rd_T38 t171 (ji6)).f0).size : Int)) = 0
          · exact absurd c10 (by have h_ := hway t171 A4.out; rw [hji6] at h_; exact h_)
          · rw [if_neg c10] at H
            have c10b0 : ((Int.tmod (wrap64 (a1)) (((rd_T38 t171 (ji6)).f0).size : Int)) == 0) = false := beq_eq_false_iff_ne.mpr c10
            have c10b1 : ((Int.tmod (wrap64 (a1)) (((rd_T38 t171 (ji6)).f0).size : Int)) != 0) = true := bne_iff_ne.mpr c10
            obtain ⟨ji286, hji286⟩ : ∃ j_ : Int, (Int.tmod (wrap64 (a1)) (((rd_T38 t171 (ji6)).f0).size : Int)) = j_ := ⟨_, rfl⟩
            replace H : (if 0 ≤ (ji286) then (if (ji286) ≤ (((rd_T38 t171 (ji6)).f0).size : Int) then (if 1 + (((rd_T38 t171 (ji6)).f0).extract 0 ((ji286) : Int).toNat).size ≤ 9223372036854775807 then ((if ((⟨#[97]⟩ : ByteArray) ++ ((rd_T38 t171 (ji6)).f0).extract 0 ((ji286) : Int).toNat).size ≤ 9223372036854775807 then (escape_Next.f k (bytesOf ((⟨#[97]⟩ : ByteArray) ++ ((rd_T38 t171 (ji6)).f0).extract 0 ((ji286) : Int).toNat)) 1 a2_0 a2_1) else none).bind fun bt201 => ((if ((rd_T38 t171 (ji6)).f0).size ≤ 9223372036854775807 then (escape_Next.f k (bytesOf ((rd_T38 t171 (ji6)).f0)) 1 a2_0 a2_1) else none).bind fun bt211 => ((amanuensislaw14_answers.f k).bind fun t219 => (if t219 = true then (if bt201.2.2.1 = 0 then (if (bt201.2.2.2.1 == 5 && (bt201.2.2.2.2 == 1)) = true then (if bt211.2.2.1 = 0 then (some (bt211.2.2.2.1 == 1 && (bt211.2.2.2.2 == 1))) else (some false)) else (some false)) else (some false)) else (some false))))) else (none)) else (none)) else (none)) = some r := by first | (rw [hji286] at H; exact H) | (simp only [hji286] at H ⊢; exact H)
            (try rw [hji286] at c10b0)
            (try rw [hji286] at c10b1)
            (try rw [hji286] at A4)
            by_cases c287 : 0 ≤ (ji286)
            · rw [if_pos c287] at H
              have c287b0 := eq_true c287
              have c287b1 : decide (0 ≤ (ji286)) = true := decide_eq_true c287
              clear c287
              by_cases c288 : (ji286) ≤ (((rd_T38 t171 (ji6)).f0).size : Int)
              · rw [if_pos c288] at H
                have c288b0 := eq_true c288
                have c288b1 : decide ((ji286) ≤ (((rd_T38 t171 (ji6)).f0).size : Int)) = true := decide_eq_true c288
                clear c288
                by_cases c289 : 1 + (((rd_T38 t171 (ji6)).f0).extract 0 ((ji286) : Int).toNat).size ≤ 9223372036854775807
                · rw [if_pos c289] at H
                  have c289b0 := eq_true c289
                  have c289b1 : decide (1 + (((rd_T38 t171 (ji6)).f0).extract 0 ((ji286) : Int).toNat).size ≤ 9223372036854775807) = true := decide_eq_true c289
                  try have c289b2 : (9223372036854775807 < 1 + (((rd_T38 t171 (ji6)).f0).extract 0 ((ji286) : Int).toNat).size) = False := eq_false (Nat.not_lt.2 c289)
                  have c289b3 : (9223372036854775807 < 1 + min (ji286 : Int).toNat ((rd_T38 t171 (ji6)).f0).size) = False := eq_false (by have h_ := c289; rw [ByteArray.size_extract] at h_; omega)
                  have c289b4 : (9223372036854775807 < 1 + (ji286 : Int).toNat) = False := eq_false (by have h_ := c289; have h2_ := of_eq_true c288b0; rw [ByteArray.size_extract] at h_; omega)
                  have SBy198 : ((⟨#[97]⟩ : ByteArray) ++ ((rd_T38 t171 (ji6)).f0).extract 0 ((ji286) : Int).toNat).size ≤ 9223372036854775807 := by
                    by_cases hc_ : ((⟨#[97]⟩ : ByteArray) ++ ((rd_T38 t171 (ji6)).f0).extract 0 ((ji286) : Int).toNat).size ≤ 9223372036854775807
                    · exact hc_
                    · rw [if_neg hc_] at H; exact absurd H (by simp)
                  rw [if_pos SBy198] at H
                  obtain ⟨y198, hy198⟩ : ∃ y_ : List Int, y_ = bytesOf ((⟨#[97]⟩ : ByteArray) ++ ((rd_T38 t171 (ji6)).f0).extract 0 ((ji286) : Int).toNat) := ⟨_, rfl⟩
                  replace H : ((escape_Next.f k y198 1 a2_0 a2_1).bind fun bt201 => ((if ((rd_T38 t171 (ji6)).f0).size ≤ 9223372036854775807 then (escape_Next.f k (bytesOf ((rd_T38 t171 (ji6)).f0)) 1 a2_0 a2_1) else none).bind fun bt211 => ((amanuensislaw14_answers.f k).bind fun t219 => (if t219 = true then (if bt201.2.2.1 = 0 then (if (bt201.2.2.2.1 == 5 && (bt201.2.2.2.2 == 1)) = true then (if bt211.2.2.1 = 0 then (some (bt211.2.2.2.1 == 1 && (bt211.2.2.2.2 == 1))) else (some false)) else (some false)) else (some false)) else (some false))))) = some r := by first | (rw [hy198]; with_reducible exact H) | (have H2_ := (Option.bind_some _ _).symm.trans H; rw [hy198]; with_reducible exact H2_) | (have H2_ := (Option.bind_some _ _).symm.trans H; with_reducible exact H2_) | with_reducible exact H | (rw [hy198]; exact H) | exact H
                  have Ny198 := Aside0.mk hy198
                  clear hy198
                  replace H := Option.bind_eq_some_iff.mp H
                  obtain ⟨⟨t201, t202, t203, t204, t205⟩, A2900, H⟩ := H
                  replace H : ((if ((rd_T38 t171 (ji6)).f0).size ≤ 9223372036854775807 then (escape_Next.f k (bytesOf ((rd_T38 t171 (ji6)).f0)) 1 a2_0 a2_1) else none).bind fun bt211 => ((amanuensislaw14_answers.f k).bind fun t219 => (if t219 = true then (if t203 = 0 then (if (t204 == 5 && (t205 == 1)) = true then (if bt211.2.2.1 = 0 then (some (bt211.2.2.2.1 == 1 && (bt211.2.2.2.2 == 1))) else (some false)) else (some false)) else (some false)) else (some false)))) = some r := H
                  have A290 := Aside0.mk A2900
                  clear A2900
                  have SBy208 : ((rd_T38 t171 (ji6)).f0).size ≤ 9223372036854775807 := by
                    by_cases hc_ : ((rd_T38 t171 (ji6)).f0).size ≤ 9223372036854775807
                    · exact hc_
                    · rw [if_neg hc_] at H; exact absurd H (by simp)
                  rw [if_pos SBy208] at H
                  obtain ⟨y208, hy208⟩ : ∃ y_ : List Int, y_ = bytesOf ((rd_T38 t171 (ji6)).f0) := ⟨_, rfl⟩
                  replace H : ((escape_Next.f k y208 1 a2_0 a2_1).bind fun bt211 => ((amanuensislaw14_answers.f k).bind fun t219 => (if t219 = true then (if t203 = 0 then (if (t204 == 5 && (t205 == 1)) = true then (if bt211.2.2.1 = 0 then (some (bt211.2.2.2.1 == 1 && (bt211.2.2.2.2 == 1))) else (some false)) else (some false)) else (some false)) else (some false)))) = some r := by first | (rw [hy208]; with_reducible exact H) | (have H2_ := (Option.bind_some _ _).symm.trans H; rw [hy208]; with_reducible exact H2_) | (have H2_ := (Option.bind_some _ _).symm.trans H; with_reducible exact H2_) | with_reducible exact H | (rw [hy208]; exact H) | exact H
                  have Ny208 := Aside0.mk hy208
                  clear hy208
                  replace H := Option.bind_eq_some_iff.mp H
                  obtain ⟨⟨t211, t212, t213, t214, t215⟩, A2910, H⟩ := H
                  replace H : ((amanuensislaw14_answers.f k).bind fun t219 => (if t219 = true then (if t203 = 0 then (if (t204 == 5 && (t205 == 1)) = true then (if t213 = 0 then (some (t214 == 1 && (t215 == 1))) else (some false)) else (some false)) else (some false)) else (some false))) = some r := H
                  have A291 := Aside0.mk A2910
                  clear A2910
                  replace H := Option.bind_eq_some_iff.mp H
                  obtain ⟨t219, A2920, H⟩ := H
                  replace H : (if t219 = true then (if t203 = 0 then (if (t204 == 5 && (t205 == 1)) = true then (if t213 = 0 then (some (t214 == 1 && (t215 == 1))) else (some false)) else (some false)) else (some false)) else (some false)) = some r := H
                  have A292 := Aside0.mk A2920
                  clear A2920
                  by_cases c293 : t219 = true
                  · subst c293
                    have H1 : (if t203 = 0 then (if (t204 == 5 && (t205 == 1)) = true then (if t213 = 0 then (some (t214 == 1 && (t215 == 1))) else (some false)) else (some false)) else (some false)) = some r := by rw [if_pos rfl] at H; exact H
                    clear H
                    have H := H1
                    clear H1
                    by_cases c294 : t203 = 0
                    · rw [if_pos c294] at H
                      have c294b0 : (t203 == 0) = true := beq_iff_eq.mpr c294
                      have c294b1 : (t203 != 0) = false := bne_eq_false_iff_eq.mpr c294
                      clear c294
                      by_cases c295 : (t204 == 5 && (t205 == 1)) = true
                      · rw [if_pos c295] at H
                        have c295b0 : (t204 == 5 && (t205 == 1)) = true := c295
                        (try (have c295b1 : decide (t204 = 5 && (t205 == 1)) = true := by simpa using c295))
                        (try (have c295b2 : (t204 == 5 && (t205 == 1)) = true := by simpa using c295))
                        clear c295
                        by_cases c296 : t213 = 0
                        · rw [if_pos c296] at H
                          have c296b0 : (t213 == 0) = true := beq_iff_eq.mpr c296
                          have c296b1 : (t213 != 0) = false := bne_eq_false_iff_eq.mpr c296
                          clear c296
                          obtain rfl := Option.some.inj H
                          have kb := fun (s : ByteArray) (W : World) => print_bytes (P := Try.prog) 9 22 5 Try.underlying9 Try.underlying22 Try.underlying5 s W
                          go_enter Try.func9, Try.ntmps9
                          try go_wp2_with (first | ((with_reducible refine gate_dst (N := 5) rfl ?_); refine box_event ?hg (N := 5) ?hd (cs := #[.int .i64 a2_0, .int .i64 a2_1]) (t := 27) ?hr ?_; (case hd => rfl); (case hg => rfl); (case hr => first | (go_simp; done) | (go_simp; rfl)); intro gb170 hg w297 hbox hb; have n0_ := Aside0.mk (below_step (by repeat (first | (with_reducible first | exact HB.out | apply below_alloc | apply pw_below_drewN | apply below_drew1) | exact HB.out)) hb); have n1_ := Aside0.mk (hbox); have n2_ := Aside0.mk ((by rw [hg]; exact (below_size (by repeat (first | (with_reducible first | exact HB.out | apply below_alloc | apply pw_below_drewN | apply below_drew1) | exact HB.out))) : w.heap.size ≤ gb170)); have n3_ := Aside0.mk ((by rw [hg]; exact (below_size (by repeat (first | (with_reducible first | exact HB.out | apply below_alloc | apply pw_below_drewN | apply below_drew1) | exact HB.out))) : w.heap.size ≤ gb170)); clear HB; have HB := n0_; have BK170 := n1_; have GW170 := n2_; have GE170 := n3_; clear n0_ n1_ n2_ n3_; clear hb hbox hg) | ((with_reducible refine gate_callee (f := 15) rfl ?_); refine goesL_ (some 17) rfl rfl Try.func15 (by kernel_rfl) rfl #[] rfl (by (try simp only [List.map_toArray, List.map_cons, List.map_nil]); first | done | rfl | (simp only [List.length_drop, List.length_take]; rfl)) ?_; (with_reducible refine (amanuensisref08_Escapes.calls k  t171 _ A4.out).mono ?_); rintro e w298 ⟨v172, rfl, ho0, hb⟩; refine ⟨_, rfl, ?_⟩; have n0_ := Aside0.mk (Kd.R_lower ho0 (below_size (by repeat (first | (with_reducible first | exact HB.out | apply below_alloc | apply pw_below_drewN | apply below_drew1 | refine below_set ?_ GE170.out) | exact HB.out)))); have n1_ := Aside0.mk (blk_below (g := gb170) (o := .cells #[.int .i64 a2_0, .int .i64 a2_1] 27 (0, 0)) (by (with_reducible repeat (first | refine blk_drewN ?_ _ | refine blk_drew ?_ | refine blk_alloc ?_ _)); exact BK170.out) hb); have n2_ := Aside0.mk (below_step (by repeat (first | (with_reducible first | exact HB.out | apply below_alloc | apply pw_below_drewN | apply below_drew1 | refine below_set ?_ GE170.out) | exact HB.out)) hb); clear BK170; clear HB; have HO173 := n0_; have BK170 := n1_; have HB := n2_; clear n0_ n1_ n2_; (try clear hb); (try clear hb2); (try clear hk); (try clear hi); (try clear ho0); obtain ⟨Ao299, co299, eo299⟩ := Kd.R_slice HO173.out; subst eo299; have p174 : 0 ≤ ((ji6) : Int) := of_decide_eq_true (by first | (with_reducible assumption) | assumption); have q174 : (ji6) < (t171.length : Int) := of_decide_eq_true (by first | (with_reducible assumption) | assumption); obtain ⟨ad174, e174, hx174_0, hx174_1, hx174_2⟩ := at_T38 (Kd.R_reads' HO173.out).2.2 (ji6) p174 q174; cases e174; replace p174 := eq_true p174; replace q174 := eq_true q174) | ((with_reducible refine gate_dst (N := 8) rfl ?_); refine box_event ?hg (N := 8) ?hd (cs := #[.string (⟨#[]⟩ : ByteArray), .int .i64 0, .int .i64 0]) (t := 38) ?hr ?_; (case hd => rfl); (case hg => rfl); (case hr => first | (go_simp; done) | (go_simp; rfl)); intro gb175 hg w300 hbox hb; have n0_ := Aside0.mk (Kd.R_below (Kd.R_elderB (by (with_reducible repeat (first | apply Kd.R_alloc | apply Kd.R_drewN | apply Kd.R_drew)); exact HO173.out) gb175 (Nat.le_of_eq hg.symm)) hb); have n1_ := Aside0.mk (blk_below (g := gb170) (o := .cells #[.int .i64 a2_0, .int .i64 a2_1] 27 (0, 0)) (by (with_reducible repeat (first | refine blk_drewN ?_ _ | refine blk_drew ?_ | refine blk_alloc ?_ _)); exact BK170.out) hb); have n2_ := Aside0.mk (below_step (by repeat (first | (with_reducible first | exact HB.out | apply below_alloc | apply pw_below_drewN | apply below_drew1 | refine below_set ?_ GE170.out) | exact HB.out)) hb); have n3_ := Aside0.mk (hbox); have n4_ := Aside0.mk ((by rw [hg]; exact (below_size (by repeat (first | (with_reducible first | exact HB.out | apply below_alloc | apply pw_below_drewN | apply below_drew1 | refine below_set ?_ GE170.out) | exact HB.out))) : w.heap.size ≤ gb175)); have n5_ := Aside0.mk ((by rw [hg]; exact (below_size (by repeat (first | (with_reducible first | exact HB.out | apply below_alloc | apply pw_below_drewN | apply below_drew1 | refine below_set ?_ GE170.out) | exact HB.out))) : w.heap.size ≤ gb175)); have n6_ := Aside0.mk ((by rw [hg]; exact Nat.ne_of_lt (blk_lt (g := gb170) (o := .cells #[.int .i64 a2_0, .int .i64 a2_1] 27 (0, 0)) (by (with_reducible repeat (first | refine blk_drewN ?_ _ | refine blk_drew ?_ | refine blk_alloc ?_ _)); exact BK170.out)) : gb170 ≠ gb175)); have n7_ := Aside0.mk ((by rw [hg]; exact Nat.ne_of_gt (blk_lt (g := gb170) (o := .cells #[.int .i64 a2_0, .int .i64 a2_1] 27 (0, 0)) (by (with_reducible repeat (first | refine blk_drewN ?_ _ | refine blk_drew ?_ | refine blk_alloc ?_ _)); exact BK170.out)) : gb175 ≠ gb170)); clear HO173; clear BK170; clear HB; have HO173 := n0_; have BK170 := n1_; have HB := n2_; have BK175 := n3_; have GW175 := n4_; have GE175 := n5_; have NB170_175 := n6_; have NB175_170 := n7_; clear n0_ n1_ n2_ n3_ n4_ n5_ n6_ n7_; clear hb hbox hg; have hnb301 := NB175_170.out; have hnc301 := NB170_175.out; have hcz302_0 : w300.cell? ⟨gb175, 0, none⟩ = some (.string (⟨#[]⟩ : ByteArray)) := (blk_cell BK175.out 0).trans rfl; have hcz302_1 : w300.cell? ⟨gb175, 1, none⟩ = some (.int .i64 0) := (blk_cell BK175.out 1).trans rfl; have hcz302_2 : w300.cell? ⟨gb175, 2, none⟩ = some (.int .i64 0) := (blk_cell BK175.out 2).trans rfl; have hfz302_0 := blk_frozen BK175.out 0; have hfz302_1 := blk_frozen BK175.out 1; have hfz302_2 := blk_frozen BK175.out 2))
                          have n0_ : Aside0 (Kd.R k38 38 (((w300.setCell ⟨gb175, 0, none⟩ (.string ((rd_T38 t171 (ji6)).f0))).setCell ⟨gb175, 1, none⟩ (.int .i64 ((rd_T38 t171 (ji6)).f1))).setCell ⟨gb175, 2, none⟩ (.int .i64 ((rd_T38 t171 (ji6)).f2))) w.heap.size (fun k_ => k_ ≠ gb175) (.slice (some ad174) t171.length co299) t171) := ⟨by (with_reducible repeat (first | apply Kd.R_alloc | apply Kd.R_drewN | apply Kd.R_drew)); exact Kd.R_mono (Kd.R_far (p := ⟨gb175, 2, none⟩) (Kd.R_far (p := ⟨gb175, 1, none⟩) (Kd.R_far (p := ⟨gb175, 0, none⟩) (Kd.R_mono HO173.out (fun k_ hk => (⟨hk, hk.2⟩ : _ ∧ k_ ≠ gb175))) (fun _ hk => hk.2) (.string ((rd_T38 t171 (ji6)).f0))) (fun _ hk => hk.2) (.int .i64 ((rd_T38 t171 (ji6)).f1))) (fun _ hk => hk.2) (.int .i64 ((rd_T38 t171 (ji6)).f2))) (fun _ hk => hk.1.2)⟩
                          have n1_ : Aside0 ((((w300.setCell ⟨gb175, 0, none⟩ (.string ((rd_T38 t171 (ji6)).f0))).setCell ⟨gb175, 1, none⟩ (.int .i64 ((rd_T38 t171 (ji6)).f1))).setCell ⟨gb175, 2, none⟩ (.int .i64 ((rd_T38 t171 (ji6)).f2))).heap[gb170]? = some (.cells #[.int .i64 a2_0, .int .i64 a2_1] 27 (0, 0))) := ⟨by (with_reducible repeat (first | refine blk_drewN ?_ _ | refine blk_drew ?_ | refine blk_alloc ?_ _)); refine blk_far ?_ NB170_175.out _; (with_reducible repeat (first | refine blk_drewN ?_ _ | refine blk_drew ?_ | refine blk_alloc ?_ _)); refine blk_far ?_ NB170_175.out _; (with_reducible repeat (first | refine blk_drewN ?_ _ | refine blk_drew ?_ | refine blk_alloc ?_ _)); refine blk_far ?_ NB170_175.out _; (with_reducible repeat (first | refine blk_drewN ?_ _ | refine blk_drew ?_ | refine blk_alloc ?_ _)); exact BK170.out⟩
                          have n2_ : Aside0 ((((w300.setCell ⟨gb175, 0, none⟩ (.string ((rd_T38 t171 (ji6)).f0))).setCell ⟨gb175, 1, none⟩ (.int .i64 ((rd_T38 t171 (ji6)).f1))).setCell ⟨gb175, 2, none⟩ (.int .i64 ((rd_T38 t171 (ji6)).f2))).heap[gb175]? = some (.cells #[.string ((rd_T38 t171 (ji6)).f0), .int .i64 ((rd_T38 t171 (ji6)).f1), .int .i64 ((rd_T38 t171 (ji6)).f2)] 38 (0, 0))) := ⟨by (with_reducible repeat (first | refine blk_drewN ?_ _ | refine blk_drew ?_ | refine blk_alloc ?_ _)); refine blk_put (cs := #[.string ((rd_T38 t171 (ji6)).f0), .int .i64 ((rd_T38 t171 (ji6)).f1), .int .i64 0]) ?_ 2 _ rfl; (with_reducible repeat (first | refine blk_drewN ?_ _ | refine blk_drew ?_ | refine blk_alloc ?_ _)); refine blk_put (cs := #[.string ((rd_T38 t171 (ji6)).f0), .int .i64 0, .int .i64 0]) ?_ 1 _ rfl; (with_reducible repeat (first | refine blk_drewN ?_ _ | refine blk_drew ?_ | refine blk_alloc ?_ _)); refine blk_put (cs := #[.string (⟨#[]⟩ : ByteArray), .int .i64 0, .int .i64 0]) ?_ 0 _ rfl; (with_reducible repeat (first | refine blk_drewN ?_ _ | refine blk_drew ?_ | refine blk_alloc ?_ _)); exact BK175.out⟩
                          have n3_ : Aside0 (Below w.heap.size w (((w300.setCell ⟨gb175, 0, none⟩ (.string ((rd_T38 t171 (ji6)).f0))).setCell ⟨gb175, 1, none⟩ (.int .i64 ((rd_T38 t171 (ji6)).f1))).setCell ⟨gb175, 2, none⟩ (.int .i64 ((rd_T38 t171 (ji6)).f2)))) := ⟨by repeat (first | (with_reducible first | exact HB.out | apply below_alloc | apply pw_below_drewN | apply below_drew1 | refine below_set ?_ GE170.out | refine below_set ?_ GE175.out) | exact HB.out)⟩
                          (try clear HO173)
                          (try clear BK170)
                          (try clear BK175)
                          (try clear HB)
                          generalize (((w300.setCell ⟨gb175, 0, none⟩ (.string ((rd_T38 t171 (ji6)).f0))).setCell ⟨gb175, 1, none⟩ (.int .i64 ((rd_T38 t171 (ji6)).f1))).setCell ⟨gb175, 2, none⟩ (.int .i64 ((rd_T38 t171 (ji6)).f2))) = w303 at n0_ n1_ n2_ n3_ ⊢
                          have HO173 := n0_
                          have BK170 := n1_
                          have BK175 := n2_
                          have HB := n3_
                          clear n0_ n1_ n2_ n3_
                          have n0_ := Aside0.mk (Kd.R_drew HO173.out)
                          have n1_ := Aside0.mk (blk_drew BK170.out)
                          have n2_ := Aside0.mk (blk_drew BK175.out)
                          have n3_ := Aside0.mk (below_drew1 HB.out)
                          clear HO173
                          clear BK170
                          clear BK175
                          clear HB
                          have HO173 := n0_
                          have BK170 := n1_
                          have BK175 := n2_
                          have HB := n3_
                          clear n0_ n1_ n2_ n3_
                          refine start_ (n := 17) (S := fun w' => w'.cell? ⟨gb175, 0, none⟩ = some (.string ((rd_T38 t171 (ji6)).f0)) ∧ w'.cell? ⟨gb175, 1, none⟩ = some (.int .i64 ((rd_T38 t171 (ji6)).f1)) ∧ w'.cell? ⟨gb175, 2, none⟩ = some (.int .i64 ((rd_T38 t171 (ji6)).f2)) ∧ w'.cell? ⟨gb170, 0, none⟩ = some (.int .i64 a2_0) ∧ w'.cell? ⟨gb170, 1, none⟩ = some (.int .i64 a2_1)) (ds := []) #[false, false, false, false, false, false, false, false, false, false, false, false, false, false, false, false, false] (by kernel_rfl) rfl rfl ⟨(blk_cell BK175.out 0).trans rfl, (blk_cell BK175.out 1).trans rfl, (blk_cell BK175.out 2).trans rfl, (blk_cell BK170.out 0).trans rfl, (blk_cell BK170.out 1).trans rfl⟩ (fun hHeld => ?_); refine with_tabW amanuensislaw14_EscapeCut.tab6 amanuensislaw14_EscapeCut.bits6 (fun HT_ HW_ => ?_)
                          generalize w303.drew = w304 at HO173 BK170 BK175 HB hHeld ⊢
                          refine pure_ (i := 0) (N := some 35) (v := ?_) (a' := ?_) #[true, false, false, false, false, false, false, false, false, false, false, false, false, false, false, false, false] rfl rfl (any_of HT_.out (by kernel_rfl)) (fun _ _ _ h => h) (Or.inl ⟨by rfl, ?_⟩) ?_ ?_
                          rotate_left
                          · intro w'
                            go_simp
                            with_reducible rfl
                          rotate_left
                          · simp only [Act.put, List.setIfInBounds_toArray, List.set_cons_zero, List.set_cons_succ, i64_w, i32_w]
                            rfl
                          refine pure_ (i := 2) (N := some 37) (v := ?_) (a' := ?_) #[true, false, true, false, false, false, false, false, false, false, false, false, false, false, false, false, false] rfl rfl (any_of HT_.out (by kernel_rfl)) (fun _ _ _ h => h) (Or.inl ⟨by rfl, ?_⟩) ?_ ?_
                          rotate_left
                          · intro w'
                            go_simp
                            with_reducible rfl
                          rotate_left
                          · simp only [Act.put, List.setIfInBounds_toArray, List.set_cons_zero, List.set_cons_succ, i64_w, i32_w]
                            rfl
                          refine take_ (i := 1) (N := some 36) (v := ?_) (a' := ?_) #[true, true, true, false, false, false, false, false, false, false, false, false, false, false, false, false, false] rfl rfl (take_ofW HT_.out HW_.out (by kernel_rfl)) (fun _ _ _ h => h) (Or.inl ⟨by rfl, ?_⟩) hHeld ?_ ?_
                          rotate_left
                          · rintro w' ⟨s0, s1, s2, s3, s4⟩
                            go_simp
                            with_reducible rfl
                          rotate_left
                          · simp only [Act.put, List.setIfInBounds_toArray, List.set_cons_zero, List.set_cons_succ, i64_w, i32_w]
                            rfl
                          refine pure_ (i := 3) (N := some 38) (v := ?_) (a' := ?_) #[true, true, true, true, false, false, false, false, false, false, false, false, false, false, false, false, false] rfl rfl (any_of HT_.out (by kernel_rfl)) (fun _ _ _ h => h) (Or.inl ⟨by rfl, ?_⟩) ?_ ?_
                          rotate_left
                          · intro w'
                            go_simp
                            with_reducible rfl
                          rotate_left
                          · simp only [Act.put, List.setIfInBounds_toArray, List.set_cons_zero, List.set_cons_succ, i64_w, i32_w]
                            rfl
                          refine pure_ (i := 4) (N := some 39) (v := ?_) (a' := ?_) #[true, true, true, true, true, false, false, false, false, false, false, false, false, false, false, false, false] rfl rfl (any_of HT_.out (by kernel_rfl)) (fun _ _ _ h => h) (Or.inl ⟨by rfl, ?_⟩) ?_ ?_
                          rotate_left
                          · intro w'
                            go_simp
                            with_reducible rfl
                          rotate_left
                          · simp only [Act.put, List.setIfInBounds_toArray, List.set_cons_zero, List.set_cons_succ, i64_w, i32_w]
                            rfl
                          refine take_ (i := 6) (N := some 41) (v := ?_) (a' := ?_) #[true, true, true, true, true, false, true, false, false, false, false, false, false, false, false, false, false] rfl rfl (take_ofW HT_.out HW_.out (by kernel_rfl)) (fun _ _ _ h => h) (Or.inl ⟨by rfl, ?_⟩) hHeld ?_ ?_
                          rotate_left
                          · rintro w' ⟨s0, s1, s2, s3, s4⟩
                            go_simp
                            with_reducible rfl
                          rotate_left
                          · simp only [Act.put, List.setIfInBounds_toArray, List.set_cons_zero, List.set_cons_succ, i64_w, i32_w]
                            rfl
                          refine join_ (σ := Value × Nat × Nat) 3 #[true, true, true, true, true, true, true, true, true, true, true, true, true, true, false, false, false] (fun s_ => [(40, s_.1), (42, .tuple #[.agg #[.int .i64 t201, .int .i64 t202], .int .i64 t203, .agg #[.int .i64 t204, .int .i64 t205]]), (10, .pointer (some ⟨s_.2.1, 0, none⟩)), (12, .pointer (some ⟨s_.2.2, 0, none⟩)), (34, .tuple #[.agg #[.int .i64 t201, .int .i64 t202], .int .i64 t203, .agg #[.int .i64 t204, .int .i64 t205]]), (43, .agg #[.int .i64 t201, .int .i64 t202]), (44, .int .i64 t203), (45, .agg #[.int .i64 t204, .int .i64 t205])]) (fun s_ w' => (w'.cell? ⟨gb175, 0, none⟩ = some (.string ((rd_T38 t171 (ji6)).f0)) ∧ w'.cell? ⟨gb175, 1, none⟩ = some (.int .i64 ((rd_T38 t171 (ji6)).f1)) ∧ w'.cell? ⟨gb175, 2, none⟩ = some (.int .i64 ((rd_T38 t171 (ji6)).f2)) ∧ w'.cell? ⟨gb170, 0, none⟩ = some (.int .i64 a2_0) ∧ w'.cell? ⟨gb170, 1, none⟩ = some (.int .i64 a2_1)) ∧ (Kd.R k38 38 w' w.heap.size (fun k_ => k_ ≠ gb175) (.slice (some ad174) t171.length co299) t171) ∧ (MR 5 w' w.heap.size (fun _ => True) s_.1 y198) ∧ (w'.heap[gb170]? = some (.cells #[.int .i64 a2_0, .int .i64 a2_1] 27 (0, 0))) ∧ (w'.heap[gb175]? = some (.cells #[.string ((rd_T38 t171 (ji6)).f0), .int .i64 ((rd_T38 t171 (ji6)).f1), .int .i64 ((rd_T38 t171 (ji6)).f2)] 38 (0, 0))) ∧ (w'.heap[s_.2.1]? = some (.cells #[.int .i64 0, .int .i64 0] 27 (0, 0))) ∧ (w'.heap[s_.2.2]? = some (.cells #[.int .i64 0, .int .i64 0] 30 (0, 0))) ∧ (w.heap.size ≤ s_.2.1) ∧ (w.heap.size ≤ s_.2.1) ∧ (gb170 ≠ s_.2.1) ∧ (s_.2.1 ≠ gb170) ∧ (gb175 ≠ s_.2.1) ∧ (s_.2.1 ≠ gb175) ∧ (s_.2.2 ≠ s_.2.1) ∧ (s_.2.1 ≠ s_.2.2) ∧ (w.heap.size ≤ s_.2.2) ∧ (w.heap.size ≤ s_.2.2) ∧ (gb170 ≠ s_.2.2) ∧ (s_.2.2 ≠ gb170) ∧ (gb175 ≠ s_.2.2) ∧ (s_.2.2 ≠ gb175) ∧ (Below w.heap.size w w')) ?_ ?_
                          rotate_left
                          · intro hJ5_7_12_13
                            refine join_ (σ := Value × Nat) 4 #[true, true, true, true, true, true, true, true, true, true, true, true, true, false, false, false, false] (fun s_ => [(40, s_.1), (42, .tuple #[.agg #[.int .i64 t201, .int .i64 t202], .int .i64 t203, .agg #[.int .i64 t204, .int .i64 t205]]), (10, .pointer (some ⟨s_.2, 0, none⟩)), (34, .tuple #[.agg #[.int .i64 t201, .int .i64 t202], .int .i64 t203, .agg #[.int .i64 t204, .int .i64 t205]]), (43, .agg #[.int .i64 t201, .int .i64 t202]), (44, .int .i64 t203), (45, .agg #[.int .i64 t204, .int .i64 t205])]) (fun s_ w' => (w'.cell? ⟨gb175, 0, none⟩ = some (.string ((rd_T38 t171 (ji6)).f0)) ∧ w'.cell? ⟨gb175, 1, none⟩ = some (.int .i64 ((rd_T38 t171 (ji6)).f1)) ∧ w'.cell? ⟨gb175, 2, none⟩ = some (.int .i64 ((rd_T38 t171 (ji6)).f2)) ∧ w'.cell? ⟨gb170, 0, none⟩ = some (.int .i64 a2_0) ∧ w'.cell? ⟨gb170, 1, none⟩ = some (.int .i64 a2_1)) ∧ (Kd.R k38 38 w' w.heap.size (fun k_ => k_ ≠ gb175) (.slice (some ad174) t171.length co299) t171) ∧ (MR 5 w' w.heap.size (fun _ => True) s_.1 y198) ∧ (w'.heap[gb170]? = some (.cells #[.int .i64 a2_0, .int .i64 a2_1] 27 (0, 0))) ∧ (w'.heap[gb175]? = some (.cells #[.string ((rd_T38 t171 (ji6)).f0), .int .i64 ((rd_T38 t171 (ji6)).f1), .int .i64 ((rd_T38 t171 (ji6)).f2)] 38 (0, 0))) ∧ (w'.heap[s_.2]? = some (.cells #[.int .i64 0, .int .i64 0] 27 (0, 0))) ∧ (w.heap.size ≤ s_.2) ∧ (w.heap.size ≤ s_.2) ∧ (gb170 ≠ s_.2) ∧ (s_.2 ≠ gb170) ∧ (gb175 ≠ s_.2) ∧ (s_.2 ≠ gb175) ∧ (Below w.heap.size w w')) ?_ ?_
                            rotate_left
                            · intro hJ5_7_12
                              refine join_ (σ := Value × Nat) 4 #[true, true, true, true, true, true, true, true, true, true, true, true, false, true, false, false, false] (fun s_ => [(40, s_.1), (42, .tuple #[.agg #[.int .i64 t201, .int .i64 t202], .int .i64 t203, .agg #[.int .i64 t204, .int .i64 t205]]), (12, .pointer (some ⟨s_.2, 0, none⟩)), (34, .tuple #[.agg #[.int .i64 t201, .int .i64 t202], .int .i64 t203, .agg #[.int .i64 t204, .int .i64 t205]]), (43, .agg #[.int .i64 t201, .int .i64 t202]), (44, .int .i64 t203), (45, .agg #[.int .i64 t204, .int .i64 t205])]) (fun s_ w' => (w'.cell? ⟨gb175, 0, none⟩ = some (.string ((rd_T38 t171 (ji6)).f0)) ∧ w'.cell? ⟨gb175, 1, none⟩ = some (.int .i64 ((rd_T38 t171 (ji6)).f1)) ∧ w'.cell? ⟨gb175, 2, none⟩ = some (.int .i64 ((rd_T38 t171 (ji6)).f2)) ∧ w'.cell? ⟨gb170, 0, none⟩ = some (.int .i64 a2_0) ∧ w'.cell? ⟨gb170, 1, none⟩ = some (.int .i64 a2_1)) ∧ (Kd.R k38 38 w' w.heap.size (fun k_ => k_ ≠ gb175) (.slice (some ad174) t171.length co299) t171) ∧ (MR 5 w' w.heap.size (fun _ => True) s_.1 y198) ∧ (w'.heap[gb170]? = some (.cells #[.int .i64 a2_0, .int .i64 a2_1] 27 (0, 0))) ∧ (w'.heap[gb175]? = some (.cells #[.string ((rd_T38 t171 (ji6)).f0), .int .i64 ((rd_T38 t171 (ji6)).f1), .int .i64 ((rd_T38 t171 (ji6)).f2)] 38 (0, 0))) ∧ (w'.heap[s_.2]? = some (.cells #[.int .i64 0, .int .i64 0] 30 (0, 0))) ∧ (w.heap.size ≤ s_.2) ∧ (w.heap.size ≤ s_.2) ∧ (gb170 ≠ s_.2) ∧ (s_.2 ≠ gb170) ∧ (gb175 ≠ s_.2) ∧ (s_.2 ≠ gb175) ∧ (Below w.heap.size w w')) ?_ ?_
                              rotate_left
                              · intro hJ5_7_13
                                refine join_ (σ := Value × Nat × Nat) 8 #[true, true, true, true, true, true, true, false, false, false, false, false, true, true, false, false, false] (fun s_ => [(40, s_.1), (10, .pointer (some ⟨s_.2.1, 0, none⟩)), (12, .pointer (some ⟨s_.2.2, 0, none⟩))]) (fun s_ w' => (w'.cell? ⟨gb175, 0, none⟩ = some (.string ((rd_T38 t171 (ji6)).f0)) ∧ w'.cell? ⟨gb175, 1, none⟩ = some (.int .i64 ((rd_T38 t171 (ji6)).f1)) ∧ w'.cell? ⟨gb175, 2, none⟩ = some (.int .i64 ((rd_T38 t171 (ji6)).f2)) ∧ w'.cell? ⟨gb170, 0, none⟩ = some (.int .i64 a2_0) ∧ w'.cell? ⟨gb170, 1, none⟩ = some (.int .i64 a2_1)) ∧ (Kd.R k38 38 w' w.heap.size (fun k_ => k_ ≠ gb175) (.slice (some ad174) t171.length co299) t171) ∧ (MR 5 w' w.heap.size (fun _ => True) s_.1 y198) ∧ (w'.heap[gb170]? = some (.cells #[.int .i64 a2_0, .int .i64 a2_1] 27 (0, 0))) ∧ (w'.heap[gb175]? = some (.cells #[.string ((rd_T38 t171 (ji6)).f0), .int .i64 ((rd_T38 t171 (ji6)).f1), .int .i64 ((rd_T38 t171 (ji6)).f2)] 38 (0, 0))) ∧ (w'.heap[s_.2.1]? = some (.cells #[.int .i64 0, .int .i64 0] 27 (0, 0))) ∧ (w'.heap[s_.2.2]? = some (.cells #[.int .i64 0, .int .i64 0] 30 (0, 0))) ∧ (w.heap.size ≤ s_.2.1) ∧ (w.heap.size ≤ s_.2.1) ∧ (gb170 ≠ s_.2.1) ∧ (s_.2.1 ≠ gb170) ∧ (gb175 ≠ s_.2.1) ∧ (s_.2.1 ≠ gb175) ∧ (s_.2.2 ≠ s_.2.1) ∧ (s_.2.1 ≠ s_.2.2) ∧ (w.heap.size ≤ s_.2.2) ∧ (w.heap.size ≤ s_.2.2) ∧ (gb170 ≠ s_.2.2) ∧ (s_.2.2 ≠ gb170) ∧ (gb175 ≠ s_.2.2) ∧ (s_.2.2 ≠ gb175) ∧ (Below w.heap.size w w')) ?_ ?_
                                rotate_left
                                · intro hJ5_12_13
                                  refine join_ (σ := Value) 5 #[true, true, true, true, true, true, true, true, true, true, true, true, false, false, false, false, false] (fun s_ => [(40, s_), (42, .tuple #[.agg #[.int .i64 t201, .int .i64 t202], .int .i64 t203, .agg #[.int .i64 t204, .int .i64 t205]]), (34, .tuple #[.agg #[.int .i64 t201, .int .i64 t202], .int .i64 t203, .agg #[.int .i64 t204, .int .i64 t205]]), (43, .agg #[.int .i64 t201, .int .i64 t202]), (44, .int .i64 t203), (45, .agg #[.int .i64 t204, .int .i64 t205])]) (fun s_ w' => (w'.cell? ⟨gb175, 0, none⟩ = some (.string ((rd_T38 t171 (ji6)).f0)) ∧ w'.cell? ⟨gb175, 1, none⟩ = some (.int .i64 ((rd_T38 t171 (ji6)).f1)) ∧ w'.cell? ⟨gb175, 2, none⟩ = some (.int .i64 ((rd_T38 t171 (ji6)).f2)) ∧ w'.cell? ⟨gb170, 0, none⟩ = some (.int .i64 a2_0) ∧ w'.cell? ⟨gb170, 1, none⟩ = some (.int .i64 a2_1)) ∧ (Kd.R k38 38 w' w.heap.size (fun k_ => k_ ≠ gb175) (.slice (some ad174) t171.length co299) t171) ∧ (MR 5 w' w.heap.size (fun _ => True) s_ y198) ∧ (w'.heap[gb170]? = some (.cells #[.int .i64 a2_0, .int .i64 a2_1] 27 (0, 0))) ∧ (w'.heap[gb175]? = some (.cells #[.string ((rd_T38 t171 (ji6)).f0), .int .i64 ((rd_T38 t171 (ji6)).f1), .int .i64 ((rd_T38 t171 (ji6)).f2)] 38 (0, 0))) ∧ (Below w.heap.size w w')) ?_ ?_
                                  rotate_left
                                  · intro hJ5_7
                                    refine join_ (σ := Value × Nat) 9 #[true, true, true, true, true, true, true, false, false, false, false, false, true, false, false, false, false] (fun s_ => [(40, s_.1), (10, .pointer (some ⟨s_.2, 0, none⟩))]) (fun s_ w' => (w'.cell? ⟨gb175, 0, none⟩ = some (.string ((rd_T38 t171 (ji6)).f0)) ∧ w'.cell? ⟨gb175, 1, none⟩ = some (.int .i64 ((rd_T38 t171 (ji6)).f1)) ∧ w'.cell? ⟨gb175, 2, none⟩ = some (.int .i64 ((rd_T38 t171 (ji6)).f2)) ∧ w'.cell? ⟨gb170, 0, none⟩ = some (.int .i64 a2_0) ∧ w'.cell? ⟨gb170, 1, none⟩ = some (.int .i64 a2_1)) ∧ (Kd.R k38 38 w' w.heap.size (fun k_ => k_ ≠ gb175) (.slice (some ad174) t171.length co299) t171) ∧ (MR 5 w' w.heap.size (fun _ => True) s_.1 y198) ∧ (w'.heap[gb170]? = some (.cells #[.int .i64 a2_0, .int .i64 a2_1] 27 (0, 0))) ∧ (w'.heap[gb175]? = some (.cells #[.string ((rd_T38 t171 (ji6)).f0), .int .i64 ((rd_T38 t171 (ji6)).f1), .int .i64 ((rd_T38 t171 (ji6)).f2)] 38 (0, 0))) ∧ (w'.heap[s_.2]? = some (.cells #[.int .i64 0, .int .i64 0] 27 (0, 0))) ∧ (w.heap.size ≤ s_.2) ∧ (w.heap.size ≤ s_.2) ∧ (gb170 ≠ s_.2) ∧ (s_.2 ≠ gb170) ∧ (gb175 ≠ s_.2) ∧ (s_.2 ≠ gb175) ∧ (Below w.heap.size w w')) ?_ ?_
                                    rotate_left
                                    · intro hJ5_12
                                      refine join_ (σ := Value × Nat) 9 #[true, true, true, true, true, true, true, false, false, false, false, false, false, true, false, false, false] (fun s_ => [(40, s_.1), (12, .pointer (some ⟨s_.2, 0, none⟩))]) (fun s_ w' => (w'.cell? ⟨gb175, 0, none⟩ = some (.string ((rd_T38 t171 (ji6)).f0)) ∧ w'.cell? ⟨gb175, 1, none⟩ = some (.int .i64 ((rd_T38 t171 (ji6)).f1)) ∧ w'.cell? ⟨gb175, 2, none⟩ = some (.int .i64 ((rd_T38 t171 (ji6)).f2)) ∧ w'.cell? ⟨gb170, 0, none⟩ = some (.int .i64 a2_0) ∧ w'.cell? ⟨gb170, 1, none⟩ = some (.int .i64 a2_1)) ∧ (Kd.R k38 38 w' w.heap.size (fun k_ => k_ ≠ gb175) (.slice (some ad174) t171.length co299) t171) ∧ (MR 5 w' w.heap.size (fun _ => True) s_.1 y198) ∧ (w'.heap[gb170]? = some (.cells #[.int .i64 a2_0, .int .i64 a2_1] 27 (0, 0))) ∧ (w'.heap[gb175]? = some (.cells #[.string ((rd_T38 t171 (ji6)).f0), .int .i64 ((rd_T38 t171 (ji6)).f1), .int .i64 ((rd_T38 t171 (ji6)).f2)] 38 (0, 0))) ∧ (w'.heap[s_.2]? = some (.cells #[.int .i64 0, .int .i64 0] 30 (0, 0))) ∧ (w.heap.size ≤ s_.2) ∧ (w.heap.size ≤ s_.2) ∧ (gb170 ≠ s_.2) ∧ (s_.2 ≠ gb170) ∧ (gb175 ≠ s_.2) ∧ (s_.2 ≠ gb175) ∧ (Below w.heap.size w w')) ?_ ?_
                                      rotate_left
                                      · intro hJ5_13
                                        refine join_ (σ := Nat × Nat) 9 #[true, true, true, true, true, false, true, false, false, false, false, false, true, true, false, false, false] (fun s_ => [(10, .pointer (some ⟨s_.1, 0, none⟩)), (12, .pointer (some ⟨s_.2, 0, none⟩))]) (fun s_ w' => (w'.cell? ⟨gb175, 0, none⟩ = some (.string ((rd_T38 t171 (ji6)).f0)) ∧ w'.cell? ⟨gb175, 1, none⟩ = some (.int .i64 ((rd_T38 t171 (ji6)).f1)) ∧ w'.cell? ⟨gb175, 2, none⟩ = some (.int .i64 ((rd_T38 t171 (ji6)).f2)) ∧ w'.cell? ⟨gb170, 0, none⟩ = some (.int .i64 a2_0) ∧ w'.cell? ⟨gb170, 1, none⟩ = some (.int .i64 a2_1)) ∧ (Kd.R k38 38 w' w.heap.size (fun k_ => k_ ≠ gb175) (.slice (some ad174) t171.length co299) t171) ∧ (w'.heap[gb170]? = some (.cells #[.int .i64 a2_0, .int .i64 a2_1] 27 (0, 0))) ∧ (w'.heap[gb175]? = some (.cells #[.string ((rd_T38 t171 (ji6)).f0), .int .i64 ((rd_T38 t171 (ji6)).f1), .int .i64 ((rd_T38 t171 (ji6)).f2)] 38 (0, 0))) ∧ (w'.heap[s_.1]? = some (.cells #[.int .i64 0, .int .i64 0] 27 (0, 0))) ∧ (w'.heap[s_.2]? = some (.cells #[.int .i64 0, .int .i64 0] 30 (0, 0))) ∧ (w.heap.size ≤ s_.1) ∧ (w.heap.size ≤ s_.1) ∧ (gb170 ≠ s_.1) ∧ (s_.1 ≠ gb170) ∧ (gb175 ≠ s_.1) ∧ (s_.1 ≠ gb175) ∧ (s_.2 ≠ s_.1) ∧ (s_.1 ≠ s_.2) ∧ (w.heap.size ≤ s_.2) ∧ (w.heap.size ≤ s_.2) ∧ (gb170 ≠ s_.2) ∧ (s_.2 ≠ gb170) ∧ (gb175 ≠ s_.2) ∧ (s_.2 ≠ gb175) ∧ (Below w.heap.size w w')) ?_ ?_
                                        rotate_left
                                        · intro hJ12_13
                                          refine join_ (σ := Value) 10 #[true, true, true, true, true, true, true, false, false, false, false, false, false, false, false, false, false] (fun s_ => [(40, s_)]) (fun s_ w' => (w'.cell? ⟨gb175, 0, none⟩ = some (.string ((rd_T38 t171 (ji6)).f0)) ∧ w'.cell? ⟨gb175, 1, none⟩ = some (.int .i64 ((rd_T38 t171 (ji6)).f1)) ∧ w'.cell? ⟨gb175, 2, none⟩ = some (.int .i64 ((rd_T38 t171 (ji6)).f2)) ∧ w'.cell? ⟨gb170, 0, none⟩ = some (.int .i64 a2_0) ∧ w'.cell? ⟨gb170, 1, none⟩ = some (.int .i64 a2_1)) ∧ (Kd.R k38 38 w' w.heap.size (fun k_ => k_ ≠ gb175) (.slice (some ad174) t171.length co299) t171) ∧ (MR 5 w' w.heap.size (fun _ => True) s_ y198) ∧ (w'.heap[gb170]? = some (.cells #[.int .i64 a2_0, .int .i64 a2_1] 27 (0, 0))) ∧ (w'.heap[gb175]? = some (.cells #[.string ((rd_T38 t171 (ji6)).f0), .int .i64 ((rd_T38 t171 (ji6)).f1), .int .i64 ((rd_T38 t171 (ji6)).f2)] 38 (0, 0))) ∧ (Below w.heap.size w w')) ?_ ?_
                                          rotate_left
                                          · intro hJ5
                                            refine join_ (σ := Nat) 10 #[true, true, true, true, true, false, true, false, false, false, false, false, true, false, false, false, false] (fun s_ => [(10, .pointer (some ⟨s_, 0, none⟩))]) (fun s_ w' => (w'.cell? ⟨gb175, 0, none⟩ = some (.string ((rd_T38 t171 (ji6)).f0)) ∧ w'.cell? ⟨gb175, 1, none⟩ = some (.int .i64 ((rd_T38 t171 (ji6)).f1)) ∧ w'.cell? ⟨gb175, 2, none⟩ = some (.int .i64 ((rd_T38 t171 (ji6)).f2)) ∧ w'.cell? ⟨gb170, 0, none⟩ = some (.int .i64 a2_0) ∧ w'.cell? ⟨gb170, 1, none⟩ = some (.int .i64 a2_1)) ∧ (Kd.R k38 38 w' w.heap.size (fun k_ => k_ ≠ gb175) (.slice (some ad174) t171.length co299) t171) ∧ (w'.heap[gb170]? = some (.cells #[.int .i64 a2_0, .int .i64 a2_1] 27 (0, 0))) ∧ (w'.heap[gb175]? = some (.cells #[.string ((rd_T38 t171 (ji6)).f0), .int .i64 ((rd_T38 t171 (ji6)).f1), .int .i64 ((rd_T38 t171 (ji6)).f2)] 38 (0, 0))) ∧ (w'.heap[s_]? = some (.cells #[.int .i64 0, .int .i64 0] 27 (0, 0))) ∧ (w.heap.size ≤ s_) ∧ (w.heap.size ≤ s_) ∧ (gb170 ≠ s_) ∧ (s_ ≠ gb170) ∧ (gb175 ≠ s_) ∧ (s_ ≠ gb175) ∧ (Below w.heap.size w w')) ?_ ?_
                                            rotate_left
                                            · intro hJ12
                                              refine join_ (σ := Nat) 10 #[true, true, true, true, true, false, true, false, false, false, false, false, false, true, false, false, false] (fun s_ => [(12, .pointer (some ⟨s_, 0, none⟩))]) (fun s_ w' => (w'.cell? ⟨gb175, 0, none⟩ = some (.string ((rd_T38 t171 (ji6)).f0)) ∧ w'.cell? ⟨gb175, 1, none⟩ = some (.int .i64 ((rd_T38 t171 (ji6)).f1)) ∧ w'.cell? ⟨gb175, 2, none⟩ = some (.int .i64 ((rd_T38 t171 (ji6)).f2)) ∧ w'.cell? ⟨gb170, 0, none⟩ = some (.int .i64 a2_0) ∧ w'.cell? ⟨gb170, 1, none⟩ = some (.int .i64 a2_1)) ∧ (Kd.R k38 38 w' w.heap.size (fun k_ => k_ ≠ gb175) (.slice (some ad174) t171.length co299) t171) ∧ (w'.heap[gb170]? = some (.cells #[.int .i64 a2_0, .int .i64 a2_1] 27 (0, 0))) ∧ (w'.heap[gb175]? = some (.cells #[.string ((rd_T38 t171 (ji6)).f0), .int .i64 ((rd_T38 t171 (ji6)).f1), .int .i64 ((rd_T38 t171 (ji6)).f2)] 38 (0, 0))) ∧ (w'.heap[s_]? = some (.cells #[.int .i64 0, .int .i64 0] 30 (0, 0))) ∧ (w.heap.size ≤ s_) ∧ (w.heap.size ≤ s_) ∧ (gb170 ≠ s_) ∧ (s_ ≠ gb170) ∧ (gb175 ≠ s_) ∧ (s_ ≠ gb175) ∧ (Below w.heap.size w w')) ?_ ?_
                                              rotate_left
                                              · intro hJ13
                                                refine three_ (i := 5) (j := 12) (k := 13) (Ni := some 40) (Nj := some 10) (Nk := some 12) #[true, true, true, true, true, true, true, false, false, false, false, false, false, false, false, false, false] #[true, true, true, true, true, false, true, false, false, false, false, false, true, false, false, false, false] #[true, true, true, true, true, false, true, false, false, false, false, false, false, true, false, false, false] rfl rfl rfl rfl rfl rfl (three_of HT_.out (by kernel_rfl)) (by decide) (by decide) (by decide) (fun K hK => ?_) (fun K hK => ?_) (fun K hK => ?_)
                                                · skip
                                                  refine MR.lit_step (ok := fun _ => True) ((⟨#[97]⟩ : ByteArray) ++ ((rd_T38 t171 (ji6)).f0).extract 0 ((ji286) : Int).toNat) y198 Ny198.out SBy198 5 ?hg (N := 40) ?hd ?hr trivial ?_; (case hd => rfl); (case hg => rfl); (case hr => first | (go_simp; done) | (go_simp; rfl))
                                                  intro v199 w305 ho306 hb hg_ hnew_
                                                  clear hg_ hnew_
                                                  skip
                                                  have n0_ := Aside0.mk (Kd.R_below (by (with_reducible repeat (first | apply Kd.R_alloc | apply Kd.R_drewN | apply Kd.R_drew)); exact HO173.out) hb)
                                                  have n1_ := Aside0.mk (MR.R_lower ho306 (below_size (by repeat (first | (with_reducible first | exact HB.out | apply below_alloc | apply pw_below_drewN | apply below_drew1 | refine below_set ?_ GE170.out | refine below_set ?_ GE175.out) | exact HB.out))))
                                                  have n2_ := Aside0.mk (blk_below (g := gb170) (o := .cells #[.int .i64 a2_0, .int .i64 a2_1] 27 (0, 0)) (by (with_reducible repeat (first | refine blk_drewN ?_ _ | refine blk_drew ?_ | refine blk_alloc ?_ _)); exact BK170.out) hb)
                                                  have n3_ := Aside0.mk (blk_below (g := gb175) (o := .cells #[.string ((rd_T38 t171 (ji6)).f0), .int .i64 ((rd_T38 t171 (ji6)).f1), .int .i64 ((rd_T38 t171 (ji6)).f2)] 38 (0, 0)) (by (with_reducible repeat (first | refine blk_drewN ?_ _ | refine blk_drew ?_ | refine blk_alloc ?_ _)); exact BK175.out) hb)
                                                  have n4_ := Aside0.mk (below_step (by repeat (first | (with_reducible first | exact HB.out | apply below_alloc | apply pw_below_drewN | apply below_drew1 | refine below_set ?_ GE170.out | refine below_set ?_ GE175.out) | exact HB.out)) hb)
                                                  clear HO173
                                                  clear BK170
                                                  clear BK175
                                                  clear HB
                                                  have HO173 := n0_
                                                  have HO200 := n1_
                                                  have BK170 := n2_
                                                  have BK175 := n3_
                                                  have HB := n4_
                                                  clear n0_ n1_ n2_ n3_ n4_
                                                  clear hb ho306
                                                  refine hK.out _ _ ⟨(blk_cell BK175.out 0).trans rfl, (blk_cell BK175.out 1).trans rfl, (blk_cell BK175.out 2).trans rfl, (blk_cell BK170.out 0).trans rfl, (blk_cell BK170.out 1).trans rfl⟩ (fun hHeld => ?_)
                                                  clear hK K
                                                  refine norm_ (a' := ?_) ?_ ?_
                                                  rotate_left
                                                  · show Act.put _ (some 40) _ = _
                                                    simp only [Act.put, List.setIfInBounds_toArray, List.set_cons_zero, List.set_cons_succ, i64_w, i32_w]
                                                    rfl
                                                  exact norm_ (by first | (simp only [putAll, Act.put, List.setIfInBounds_toArray, List.set_cons_zero, List.set_cons_succ]; done) | (simp only [putAll, Act.put, List.setIfInBounds_toArray, List.set_cons_zero, List.set_cons_succ]; rfl)) (hJ5 (v199) _ ⟨hHeld, (by (with_reducible repeat (first | apply Kd.R_alloc | apply Kd.R_drewN | apply Kd.R_drew)); exact HO173.out), (by (with_reducible repeat (first | apply MR.R_alloc | apply MR.R_drewN | apply MR.R_drew)); exact HO200.out), (by (with_reducible repeat (first | refine blk_drewN ?_ _ | refine blk_drew ?_ | refine blk_alloc ?_ _)); exact BK170.out), (by (with_reducible repeat (first | refine blk_drewN ?_ _ | refine blk_drew ?_ | refine blk_alloc ?_ _)); exact BK175.out), (by repeat (first | (with_reducible first | exact HB.out | apply below_alloc | apply pw_below_drewN | apply below_drew1 | refine below_set ?_ GE170.out | refine below_set ?_ GE175.out) | exact HB.out))⟩)
                                                · skip
                                                  refine box_step ?hg (N := 10) ?hd (cs := #[.int .i64 0, .int .i64 0]) (t := 27) ?hr ?_; (case hd => rfl); (case hg => rfl); (case hr => first | (go_simp; done) | (go_simp; rfl))
                                                  intro gb206 hg w305 hbox hb
                                                  have n0_ := Aside0.mk (Kd.R_below (by (with_reducible repeat (first | apply Kd.R_alloc | apply Kd.R_drewN | apply Kd.R_drew)); exact HO173.out) hb)
                                                  have n1_ := Aside0.mk (blk_below (g := gb170) (o := .cells #[.int .i64 a2_0, .int .i64 a2_1] 27 (0, 0)) (by (with_reducible repeat (first | refine blk_drewN ?_ _ | refine blk_drew ?_ | refine blk_alloc ?_ _)); exact BK170.out) hb)
                                                  have n2_ := Aside0.mk (blk_below (g := gb175) (o := .cells #[.string ((rd_T38 t171 (ji6)).f0), .int .i64 ((rd_T38 t171 (ji6)).f1), .int .i64 ((rd_T38 t171 (ji6)).f2)] 38 (0, 0)) (by (with_reducible repeat (first | refine blk_drewN ?_ _ | refine blk_drew ?_ | refine blk_alloc ?_ _)); exact BK175.out) hb)
                                                  have n3_ := Aside0.mk (below_step (by repeat (first | (with_reducible first | exact HB.out | apply below_alloc | apply pw_below_drewN | apply below_drew1 | refine below_set ?_ GE170.out | refine below_set ?_ GE175.out) | exact HB.out)) hb)
                                                  have n4_ := Aside0.mk (hbox)
                                                  have n5_ := Aside0.mk ((by rw [hg]; exact (below_size (by repeat (first | (with_reducible first | exact HB.out | apply below_alloc | apply pw_below_drewN | apply below_drew1 | refine below_set ?_ GE170.out | refine below_set ?_ GE175.out) | exact HB.out))) : w.heap.size ≤ gb206))
                                                  have n6_ := Aside0.mk ((by rw [hg]; exact (below_size (by repeat (first | (with_reducible first | exact HB.out | apply below_alloc | apply pw_below_drewN | apply below_drew1 | refine below_set ?_ GE170.out | refine below_set ?_ GE175.out) | exact HB.out))) : w.heap.size ≤ gb206))
                                                  have n7_ := Aside0.mk ((by rw [hg]; exact Nat.ne_of_lt (blk_lt (g := gb170) (o := .cells #[.int .i64 a2_0, .int .i64 a2_1] 27 (0, 0)) (by (with_reducible repeat (first | refine blk_drewN ?_ _ | refine blk_drew ?_ | refine blk_alloc ?_ _)); exact BK170.out)) : gb170 ≠ gb206))
                                                  have n8_ := Aside0.mk ((by rw [hg]; exact Nat.ne_of_gt (blk_lt (g := gb170) (o := .cells #[.int .i64 a2_0, .int .i64 a2_1] 27 (0, 0)) (by (with_reducible repeat (first | refine blk_drewN ?_ _ | refine blk_drew ?_ | refine blk_alloc ?_ _)); exact BK170.out)) : gb206 ≠ gb170))
                                                  have n9_ := Aside0.mk ((by rw [hg]; exact Nat.ne_of_lt (blk_lt (g := gb175) (o := .cells #[.string ((rd_T38 t171 (ji6)).f0), .int .i64 ((rd_T38 t171 (ji6)).f1), .int .i64 ((rd_T38 t171 (ji6)).f2)] 38 (0, 0)) (by (with_reducible repeat (first | refine blk_drewN ?_ _ | refine blk_drew ?_ | refine blk_alloc ?_ _)); exact BK175.out)) : gb175 ≠ gb206))
                                                  have n10_ := Aside0.mk ((by rw [hg]; exact Nat.ne_of_gt (blk_lt (g := gb175) (o := .cells #[.string ((rd_T38 t171 (ji6)).f0), .int .i64 ((rd_T38 t171 (ji6)).f1), .int .i64 ((rd_T38 t171 (ji6)).f2)] 38 (0, 0)) (by (with_reducible repeat (first | refine blk_drewN ?_ _ | refine blk_drew ?_ | refine blk_alloc ?_ _)); exact BK175.out)) : gb206 ≠ gb175))
                                                  clear HO173
                                                  clear BK170
                                                  clear BK175
                                                  clear HB
                                                  have HO173 := n0_
                                                  have BK170 := n1_
                                                  have BK175 := n2_
                                                  have HB := n3_
                                                  have BK206 := n4_
                                                  have GW206 := n5_
                                                  have GE206 := n6_
                                                  have NB170_206 := n7_
                                                  have NB206_170 := n8_
                                                  have NB175_206 := n9_
                                                  have NB206_175 := n10_
                                                  clear n0_ n1_ n2_ n3_ n4_ n5_ n6_ n7_ n8_ n9_ n10_
                                                  clear hb hbox hg
                                                  refine hK.out _ _ ⟨(blk_cell BK175.out 0).trans rfl, (blk_cell BK175.out 1).trans rfl, (blk_cell BK175.out 2).trans rfl, (blk_cell BK170.out 0).trans rfl, (blk_cell BK170.out 1).trans rfl⟩ (fun hHeld => ?_)
                                                  clear hK K
                                                  refine norm_ (a' := ?_) ?_ ?_
                                                  rotate_left
                                                  · show Act.put _ (some 10) _ = _
                                                    simp only [Act.put, List.setIfInBounds_toArray, List.set_cons_zero, List.set_cons_succ, i64_w, i32_w]
                                                    rfl
                                                  exact norm_ (by first | (simp only [putAll, Act.put, List.setIfInBounds_toArray, List.set_cons_zero, List.set_cons_succ]; done) | (simp only [putAll, Act.put, List.setIfInBounds_toArray, List.set_cons_zero, List.set_cons_succ]; rfl)) (hJ12 (gb206) _ ⟨hHeld, (by (with_reducible repeat (first | apply Kd.R_alloc | apply Kd.R_drewN | apply Kd.R_drew)); exact HO173.out), (by (with_reducible repeat (first | refine blk_drewN ?_ _ | refine blk_drew ?_ | refine blk_alloc ?_ _)); exact BK170.out), (by (with_reducible repeat (first | refine blk_drewN ?_ _ | refine blk_drew ?_ | refine blk_alloc ?_ _)); exact BK175.out), (by (with_reducible repeat (first | refine blk_drewN ?_ _ | refine blk_drew ?_ | refine blk_alloc ?_ _)); exact BK206.out), GW206.out, GE206.out, NB170_206.out, NB206_170.out, NB175_206.out, NB206_175.out, (by repeat (first | (with_reducible first | exact HB.out | apply below_alloc | apply pw_below_drewN | apply below_drew1 | refine below_set ?_ GE170.out | refine below_set ?_ GE175.out | refine below_set ?_ GE206.out) | exact HB.out))⟩)
                                                · skip
                                                  refine box_step ?hg (N := 12) ?hd (cs := #[.int .i64 0, .int .i64 0]) (t := 30) ?hr ?_; (case hd => rfl); (case hg => rfl); (case hr => first | (go_simp; done) | (go_simp; rfl))
                                                  intro gb207 hg w305 hbox hb
                                                  have n0_ := Aside0.mk (Kd.R_below (by (with_reducible repeat (first | apply Kd.R_alloc | apply Kd.R_drewN | apply Kd.R_drew)); exact HO173.out) hb)
                                                  have n1_ := Aside0.mk (blk_below (g := gb170) (o := .cells #[.int .i64 a2_0, .int .i64 a2_1] 27 (0, 0)) (by (with_reducible repeat (first | refine blk_drewN ?_ _ | refine blk_drew ?_ | refine blk_alloc ?_ _)); exact BK170.out) hb)
                                                  have n2_ := Aside0.mk (blk_below (g := gb175) (o := .cells #[.string ((rd_T38 t171 (ji6)).f0), .int .i64 ((rd_T38 t171 (ji6)).f1), .int .i64 ((rd_T38 t171 (ji6)).f2)] 38 (0, 0)) (by (with_reducible repeat (first | refine blk_drewN ?_ _ | refine blk_drew ?_ | refine blk_alloc ?_ _)); exact BK175.out) hb)
                                                  have n3_ := Aside0.mk (below_step (by repeat (first | (with_reducible first | exact HB.out | apply below_alloc | apply pw_below_drewN | apply below_drew1 | refine below_set ?_ GE170.out | refine below_set ?_ GE175.out) | exact HB.out)) hb)
                                                  have n4_ := Aside0.mk (hbox)
                                                  have n5_ := Aside0.mk ((by rw [hg]; exact (below_size (by repeat (first | (with_reducible first | exact HB.out | apply below_alloc | apply pw_below_drewN | apply below_drew1 | refine below_set ?_ GE170.out | refine below_set ?_ GE175.out) | exact HB.out))) : w.heap.size ≤ gb207))
                                                  have n6_ := Aside0.mk ((by rw [hg]; exact (below_size (by repeat (first | (with_reducible first | exact HB.out | apply below_alloc | apply pw_below_drewN | apply below_drew1 | refine below_set ?_ GE170.out | refine below_set ?_ GE175.out) | exact HB.out))) : w.heap.size ≤ gb207))
                                                  have n7_ := Aside0.mk ((by rw [hg]; exact Nat.ne_of_lt (blk_lt (g := gb170) (o := .cells #[.int .i64 a2_0, .int .i64 a2_1] 27 (0, 0)) (by (with_reducible repeat (first | refine blk_drewN ?_ _ | refine blk_drew ?_ | refine blk_alloc ?_ _)); exact BK170.out)) : gb170 ≠ gb207))
                                                  have n8_ := Aside0.mk ((by rw [hg]; exact Nat.ne_of_gt (blk_lt (g := gb170) (o := .cells #[.int .i64 a2_0, .int .i64 a2_1] 27 (0, 0)) (by (with_reducible repeat (first | refine blk_drewN ?_ _ | refine blk_drew ?_ | refine blk_alloc ?_ _)); exact BK170.out)) : gb207 ≠ gb170))
                                                  have n9_ := Aside0.mk ((by rw [hg]; exact Nat.ne_of_lt (blk_lt (g := gb175) (o := .cells #[.string ((rd_T38 t171 (ji6)).f0), .int .i64 ((rd_T38 t171 (ji6)).f1), .int .i64 ((rd_T38 t171 (ji6)).f2)] 38 (0, 0)) (by (with_reducible repeat (first | refine blk_drewN ?_ _ | refine blk_drew ?_ | refine blk_alloc ?_ _)); exact BK175.out)) : gb175 ≠ gb207))
                                                  have n10_ := Aside0.mk ((by rw [hg]; exact Nat.ne_of_gt (blk_lt (g := gb175) (o := .cells #[.string ((rd_T38 t171 (ji6)).f0), .int .i64 ((rd_T38 t171 (ji6)).f1), .int .i64 ((rd_T38 t171 (ji6)).f2)] 38 (0, 0)) (by (with_reducible repeat (first | refine blk_drewN ?_ _ | refine blk_drew ?_ | refine blk_alloc ?_ _)); exact BK175.out)) : gb207 ≠ gb175))
                                                  clear HO173
                                                  clear BK170
                                                  clear BK175
                                                  clear HB
                                                  have HO173 := n0_
                                                  have BK170 := n1_
                                                  have BK175 := n2_
                                                  have HB := n3_
                                                  have BK207 := n4_
                                                  have GW207 := n5_
                                                  have GE207 := n6_
                                                  have NB170_207 := n7_
                                                  have NB207_170 := n8_
                                                  have NB175_207 := n9_
                                                  have NB207_175 := n10_
                                                  clear n0_ n1_ n2_ n3_ n4_ n5_ n6_ n7_ n8_ n9_ n10_
                                                  clear hb hbox hg
                                                  refine hK.out _ _ ⟨(blk_cell BK175.out 0).trans rfl, (blk_cell BK175.out 1).trans rfl, (blk_cell BK175.out 2).trans rfl, (blk_cell BK170.out 0).trans rfl, (blk_cell BK170.out 1).trans rfl⟩ (fun hHeld => ?_)
                                                  clear hK K
                                                  refine norm_ (a' := ?_) ?_ ?_
                                                  rotate_left
                                                  · show Act.put _ (some 12) _ = _
                                                    simp only [Act.put, List.setIfInBounds_toArray, List.set_cons_zero, List.set_cons_succ, i64_w, i32_w]
                                                    rfl
                                                  exact norm_ (by first | (simp only [putAll, Act.put, List.setIfInBounds_toArray, List.set_cons_zero, List.set_cons_succ]; done) | (simp only [putAll, Act.put, List.setIfInBounds_toArray, List.set_cons_zero, List.set_cons_succ]; rfl)) (hJ13 (gb207) _ ⟨hHeld, (by (with_reducible repeat (first | apply Kd.R_alloc | apply Kd.R_drewN | apply Kd.R_drew)); exact HO173.out), (by (with_reducible repeat (first | refine blk_drewN ?_ _ | refine blk_drew ?_ | refine blk_alloc ?_ _)); exact BK170.out), (by (with_reducible repeat (first | refine blk_drewN ?_ _ | refine blk_drew ?_ | refine blk_alloc ?_ _)); exact BK175.out), (by (with_reducible repeat (first | refine blk_drewN ?_ _ | refine blk_drew ?_ | refine blk_alloc ?_ _)); exact BK207.out), GW207.out, GE207.out, NB170_207.out, NB207_170.out, NB175_207.out, NB207_175.out, (by repeat (first | (with_reducible first | exact HB.out | apply below_alloc | apply pw_below_drewN | apply below_drew1 | refine below_set ?_ GE170.out | refine below_set ?_ GE175.out | refine below_set ?_ GE207.out) | exact HB.out))⟩)
                                              · skip
                                                rintro gb207 w306 ⟨hS_, h0_, h1_, h2_, h3_, h4_, h5_, h6_, h7_, h8_, h9_, h10_⟩
                                                have n0_ : Aside0 (Kd.R k38 38 w306 w.heap.size (fun k_ => k_ ≠ gb175) (.slice (some ad174) t171.length co299) t171) := ⟨h0_⟩
                                                have n1_ : Aside0 (w306.heap[gb170]? = some (.cells #[.int .i64 a2_0, .int .i64 a2_1] 27 (0, 0))) := ⟨h1_⟩
                                                have n2_ : Aside0 (w306.heap[gb175]? = some (.cells #[.string ((rd_T38 t171 (ji6)).f0), .int .i64 ((rd_T38 t171 (ji6)).f1), .int .i64 ((rd_T38 t171 (ji6)).f2)] 38 (0, 0))) := ⟨h2_⟩
                                                have n3_ : Aside0 (w306.heap[gb207]? = some (.cells #[.int .i64 0, .int .i64 0] 30 (0, 0))) := ⟨h3_⟩
                                                have n4_ : Aside0 (w.heap.size ≤ gb207) := ⟨h4_⟩
                                                have n5_ : Aside0 (w.heap.size ≤ gb207) := ⟨h5_⟩
                                                have n6_ : Aside0 (gb170 ≠ gb207) := ⟨h6_⟩
                                                have n7_ : Aside0 (gb207 ≠ gb170) := ⟨h7_⟩
                                                have n8_ : Aside0 (gb175 ≠ gb207) := ⟨h8_⟩
                                                have n9_ : Aside0 (gb207 ≠ gb175) := ⟨h9_⟩
                                                have n10_ : Aside0 (Below w.heap.size w w306) := ⟨h10_⟩
                                                clear HO173
                                                clear BK170
                                                clear BK175
                                                clear HB
                                                clear h0_ h1_ h2_ h3_ h4_ h5_ h6_ h7_ h8_ h9_ h10_
                                                have HO173 := n0_
                                                have BK170 := n1_
                                                have BK175 := n2_
                                                have BK207 := n3_
                                                have GW207 := n4_
                                                have GE207 := n5_
                                                have NB170_207 := n6_
                                                have NB207_170 := n7_
                                                have NB175_207 := n8_
                                                have NB207_175 := n9_
                                                have HB := n10_
                                                clear n0_ n1_ n2_ n3_ n4_ n5_ n6_ n7_ n8_ n9_ n10_
                                                have hHeld : w306.cell? ⟨gb175, 0, none⟩ = some (.string ((rd_T38 t171 (ji6)).f0)) ∧ w306.cell? ⟨gb175, 1, none⟩ = some (.int .i64 ((rd_T38 t171 (ji6)).f1)) ∧ w306.cell? ⟨gb175, 2, none⟩ = some (.int .i64 ((rd_T38 t171 (ji6)).f2)) ∧ w306.cell? ⟨gb170, 0, none⟩ = some (.int .i64 a2_0) ∧ w306.cell? ⟨gb170, 1, none⟩ = some (.int .i64 a2_1) := hS_
                                                refine norm_ (a' := ?_) ?_ ?_
                                                rotate_left
                                                · simp only [putAll, Act.put, List.setIfInBounds_toArray, List.set_cons_zero, List.set_cons_succ]
                                                  rfl
                                                refine two_ (i := 5) (j := 12) (Ni := some 40) (Nj := some 10) #[true, true, true, true, true, true, true, false, false, false, false, false, false, true, false, false, false] #[true, true, true, true, true, false, true, false, false, false, false, false, true, true, false, false, false] rfl rfl rfl rfl (two_of HT_.out (by kernel_rfl)) (by decide) (by decide) (fun K hK => ?_) (fun K hK => ?_)
                                                · skip
                                                  refine MR.lit_step (ok := fun _ => True) ((⟨#[97]⟩ : ByteArray) ++ ((rd_T38 t171 (ji6)).f0).extract 0 ((ji286) : Int).toNat) y198 Ny198.out SBy198 5 ?hg (N := 40) ?hd ?hr trivial ?_; (case hd => rfl); (case hg => rfl); (case hr => first | (go_simp; done) | (go_simp; rfl))
                                                  intro v199 w307 ho308 hb hg_ hnew_
                                                  clear hg_ hnew_
                                                  skip
                                                  have n0_ := Aside0.mk (Kd.R_below (by (with_reducible repeat (first | apply Kd.R_alloc | apply Kd.R_drewN | apply Kd.R_drew)); exact HO173.out) hb)
                                                  have n1_ := Aside0.mk (MR.R_lower ho308 (below_size (by repeat (first | (with_reducible first | exact HB.out | apply below_alloc | apply pw_below_drewN | apply below_drew1 | refine below_set ?_ GE170.out | refine below_set ?_ GE175.out | refine below_set ?_ GE207.out) | exact HB.out))))
                                                  have n2_ := Aside0.mk (blk_below (g := gb170) (o := .cells #[.int .i64 a2_0, .int .i64 a2_1] 27 (0, 0)) (by (with_reducible repeat (first | refine blk_drewN ?_ _ | refine blk_drew ?_ | refine blk_alloc ?_ _)); exact BK170.out) hb)
                                                  have n3_ := Aside0.mk (blk_below (g := gb175) (o := .cells #[.string ((rd_T38 t171 (ji6)).f0), .int .i64 ((rd_T38 t171 (ji6)).f1), .int .i64 ((rd_T38 t171 (ji6)).f2)] 38 (0, 0)) (by (with_reducible repeat (first | refine blk_drewN ?_ _ | refine blk_drew ?_ | refine blk_alloc ?_ _)); exact BK175.out) hb)
                                                  have n4_ := Aside0.mk (blk_below (g := gb207) (o := .cells #[.int .i64 0, .int .i64 0] 30 (0, 0)) (by (with_reducible repeat (first | refine blk_drewN ?_ _ | refine blk_drew ?_ | refine blk_alloc ?_ _)); exact BK207.out) hb)
                                                  have n5_ := Aside0.mk (below_step (by repeat (first | (with_reducible first | exact HB.out | apply below_alloc | apply pw_below_drewN | apply below_drew1 | refine below_set ?_ GE170.out | refine below_set ?_ GE175.out | refine below_set ?_ GE207.out) | exact HB.out)) hb)
                                                  clear HO173
                                                  clear BK170
                                                  clear BK175
                                                  clear BK207
                                                  clear HB
                                                  have HO173 := n0_
                                                  have HO200 := n1_
                                                  have BK170 := n2_
                                                  have BK175 := n3_
                                                  have BK207 := n4_
                                                  have HB := n5_
                                                  clear n0_ n1_ n2_ n3_ n4_ n5_
                                                  clear hb ho308
                                                  refine hK.out _ _ ⟨(blk_cell BK175.out 0).trans rfl, (blk_cell BK175.out 1).trans rfl, (blk_cell BK175.out 2).trans rfl, (blk_cell BK170.out 0).trans rfl, (blk_cell BK170.out 1).trans rfl⟩ (fun hHeld => ?_)
                                                  clear hK K
                                                  refine norm_ (a' := ?_) ?_ ?_
                                                  rotate_left
                                                  · show Act.put _ (some 40) _ = _
                                                    simp only [Act.put, List.setIfInBounds_toArray, List.set_cons_zero, List.set_cons_succ, i64_w, i32_w]
                                                    rfl
                                                  exact norm_ (by first | (simp only [putAll, Act.put, List.setIfInBounds_toArray, List.set_cons_zero, List.set_cons_succ]; done) | (simp only [putAll, Act.put, List.setIfInBounds_toArray, List.set_cons_zero, List.set_cons_succ]; rfl)) (hJ5_13 (v199, gb207) _ ⟨hHeld, (by (with_reducible repeat (first | apply Kd.R_alloc | apply Kd.R_drewN | apply Kd.R_drew)); exact HO173.out), (by (with_reducible repeat (first | apply MR.R_alloc | apply MR.R_drewN | apply MR.R_drew)); exact HO200.out), (by (with_reducible repeat (first | refine blk_drewN ?_ _ | refine blk_drew ?_ | refine blk_alloc ?_ _)); exact BK170.out), (by (with_reducible repeat (first | refine blk_drewN ?_ _ | refine blk_drew ?_ | refine blk_alloc ?_ _)); exact BK175.out), (by (with_reducible repeat (first | refine blk_drewN ?_ _ | refine blk_drew ?_ | refine blk_alloc ?_ _)); exact BK207.out), GW207.out, GE207.out, NB170_207.out, NB207_170.out, NB175_207.out, NB207_175.out, (by repeat (first | (with_reducible first | exact HB.out | apply below_alloc | apply pw_below_drewN | apply below_drew1 | refine below_set ?_ GE170.out | refine below_set ?_ GE175.out | refine below_set ?_ GE207.out) | exact HB.out))⟩)
                                                · skip
                                                  refine box_step ?hg (N := 10) ?hd (cs := #[.int .i64 0, .int .i64 0]) (t := 27) ?hr ?_; (case hd => rfl); (case hg => rfl); (case hr => first | (go_simp; done) | (go_simp; rfl))
                                                  intro gb206 hg w307 hbox hb
                                                  have n0_ := Aside0.mk (Kd.R_below (by (with_reducible repeat (first | apply Kd.R_alloc | apply Kd.R_drewN | apply Kd.R_drew)); exact HO173.out) hb)
                                                  have n1_ := Aside0.mk (blk_below (g := gb170) (o := .cells #[.int .i64 a2_0, .int .i64 a2_1] 27 (0, 0)) (by (with_reducible repeat (first | refine blk_drewN ?_ _ | refine blk_drew ?_ | refine blk_alloc ?_ _)); exact BK170.out) hb)
                                                  have n2_ := Aside0.mk (blk_below (g := gb175) (o := .cells #[.string ((rd_T38 t171 (ji6)).f0), .int .i64 ((rd_T38 t171 (ji6)).f1), .int .i64 ((rd_T38 t171 (ji6)).f2)] 38 (0, 0)) (by (with_reducible repeat (first | refine blk_drewN ?_ _ | refine blk_drew ?_ | refine blk_alloc ?_ _)); exact BK175.out) hb)
                                                  have n3_ := Aside0.mk (blk_below (g := gb207) (o := .cells #[.int .i64 0, .int .i64 0] 30 (0, 0)) (by (with_reducible repeat (first | refine blk_drewN ?_ _ | refine blk_drew ?_ | refine blk_alloc ?_ _)); exact BK207.out) hb)
                                                  have n4_ := Aside0.mk (below_step (by repeat (first | (with_reducible first | exact HB.out | apply below_alloc | apply pw_below_drewN | apply below_drew1 | refine below_set ?_ GE170.out | refine below_set ?_ GE175.out | refine below_set ?_ GE207.out) | exact HB.out)) hb)
                                                  have n5_ := Aside0.mk (hbox)
                                                  have n6_ := Aside0.mk ((by rw [hg]; exact (below_size (by repeat (first | (with_reducible first | exact HB.out | apply below_alloc | apply pw_below_drewN | apply below_drew1 | refine below_set ?_ GE170.out | refine below_set ?_ GE175.out | refine below_set ?_ GE207.out) | exact HB.out))) : w.heap.size ≤ gb206))
                                                  have n7_ := Aside0.mk ((by rw [hg]; exact (below_size (by repeat (first | (with_reducible first | exact HB.out | apply below_alloc | apply pw_below_drewN | apply below_drew1 | refine below_set ?_ GE170.out | refine below_set ?_ GE175.out | refine below_set ?_ GE207.out) | exact HB.out))) : w.heap.size ≤ gb206))
                                                  have n8_ := Aside0.mk ((by rw [hg]; exact Nat.ne_of_lt (blk_lt (g := gb170) (o := .cells #[.int .i64 a2_0, .int .i64 a2_1] 27 (0, 0)) (by (with_reducible repeat (first | refine blk_drewN ?_ _ | refine blk_drew ?_ | refine blk_alloc ?_ _)); exact BK170.out)) : gb170 ≠ gb206))
                                                  have n9_ := Aside0.mk ((by rw [hg]; exact Nat.ne_of_gt (blk_lt (g := gb170) (o := .cells #[.int .i64 a2_0, .int .i64 a2_1] 27 (0, 0)) (by (with_reducible repeat (first | refine blk_drewN ?_ _ | refine blk_drew ?_ | refine blk_alloc ?_ _)); exact BK170.out)) : gb206 ≠ gb170))
                                                  have n10_ := Aside0.mk ((by rw [hg]; exact Nat.ne_of_lt (blk_lt (g := gb175) (o := .cells #[.string ((rd_T38 t171 (ji6)).f0), .int .i64 ((rd_T38 t171 (ji6)).f1), .int .i64 ((rd_T38 t171 (ji6)).f2)] 38 (0, 0)) (by (with_reducible repeat (first | refine blk_drewN ?_ _ | refine blk_drew ?_ | refine blk_alloc ?_ _)); exact BK175.out)) : gb175 ≠ gb206))
                                                  have n11_ := Aside0.mk ((by rw [hg]; exact Nat.ne_of_gt (blk_lt (g := gb175) (o := .cells #[.string ((rd_T38 t171 (ji6)).f0), .int .i64 ((rd_T38 t171 (ji6)).f1), .int .i64 ((rd_T38 t171 (ji6)).f2)] 38 (0, 0)) (by (with_reducible repeat (first | refine blk_drewN ?_ _ | refine blk_drew ?_ | refine blk_alloc ?_ _)); exact BK175.out)) : gb206 ≠ gb175))
                                                  have n12_ := Aside0.mk ((by rw [hg]; exact Nat.ne_of_lt (blk_lt (g := gb207) (o := .cells #[.int .i64 0, .int .i64 0] 30 (0, 0)) (by (with_reducible repeat (first | refine blk_drewN ?_ _ | refine blk_drew ?_ | refine blk_alloc ?_ _)); exact BK207.out)) : gb207 ≠ gb206))
                                                  have n13_ := Aside0.mk ((by rw [hg]; exact Nat.ne_of_gt (blk_lt (g := gb207) (o := .cells #[.int .i64 0, .int .i64 0] 30 (0, 0)) (by (with_reducible repeat (first | refine blk_drewN ?_ _ | refine blk_drew ?_ | refine blk_alloc ?_ _)); exact BK207.out)) : gb206 ≠ gb207))
                                                  clear HO173
                                                  clear BK170
                                                  clear BK175
                                                  clear BK207
                                                  clear HB
                                                  have HO173 := n0_
                                                  have BK170 := n1_
                                                  have BK175 := n2_
                                                  have BK207 := n3_
                                                  have HB := n4_
                                                  have BK206 := n5_
                                                  have GW206 := n6_
                                                  have GE206 := n7_
                                                  have NB170_206 := n8_
                                                  have NB206_170 := n9_
                                                  have NB175_206 := n10_
                                                  have NB206_175 := n11_
                                                  have NB207_206 := n12_
                                                  have NB206_207 := n13_
                                                  clear n0_ n1_ n2_ n3_ n4_ n5_ n6_ n7_ n8_ n9_ n10_ n11_ n12_ n13_
                                                  clear hb hbox hg
                                                  refine hK.out _ _ ⟨(blk_cell BK175.out 0).trans rfl, (blk_cell BK175.out 1).trans rfl, (blk_cell BK175.out 2).trans rfl, (blk_cell BK170.out 0).trans rfl, (blk_cell BK170.out 1).trans rfl⟩ (fun hHeld => ?_)
                                                  clear hK K
                                                  refine norm_ (a' := ?_) ?_ ?_
                                                  rotate_left
                                                  · show Act.put _ (some 10) _ = _
                                                    simp only [Act.put, List.setIfInBounds_toArray, List.set_cons_zero, List.set_cons_succ, i64_w, i32_w]
                                                    rfl
                                                  exact norm_ (by first | (simp only [putAll, Act.put, List.setIfInBounds_toArray, List.set_cons_zero, List.set_cons_succ]; done) | (simp only [putAll, Act.put, List.setIfInBounds_toArray, List.set_cons_zero, List.set_cons_succ]; rfl)) (hJ12_13 (gb206, gb207) _ ⟨hHeld, (by (with_reducible repeat (first | apply Kd.R_alloc | apply Kd.R_drewN | apply Kd.R_drew)); exact HO173.out), (by (with_reducible repeat (first | refine blk_drewN ?_ _ | refine blk_drew ?_ | refine blk_alloc ?_ _)); exact BK170.out), (by (with_reducible repeat (first | refine blk_drewN ?_ _ | refine blk_drew ?_ | refine blk_alloc ?_ _)); exact BK175.out), (by (with_reducible repeat (first | refine blk_drewN ?_ _ | refine blk_drew ?_ | refine blk_alloc ?_ _)); exact BK206.out), (by (with_reducible repeat (first | refine blk_drewN ?_ _ | refine blk_drew ?_ | refine blk_alloc ?_ _)); exact BK207.out), GW206.out, GE206.out, NB170_206.out, NB206_170.out, NB175_206.out, NB206_175.out, NB207_206.out, NB206_207.out, GW207.out, GE207.out, NB170_207.out, NB207_170.out, NB175_207.out, NB207_175.out, (by repeat (first | (with_reducible first | exact HB.out | apply below_alloc | apply pw_below_drewN | apply below_drew1 | refine below_set ?_ GE170.out | refine below_set ?_ GE175.out | refine below_set ?_ GE207.out | refine below_set ?_ GE206.out) | exact HB.out))⟩)
                                            · skip
                                              rintro gb206 w306 ⟨hS_, h0_, h1_, h2_, h3_, h4_, h5_, h6_, h7_, h8_, h9_, h10_⟩
                                              have n0_ : Aside0 (Kd.R k38 38 w306 w.heap.size (fun k_ => k_ ≠ gb175) (.slice (some ad174) t171.length co299) t171) := ⟨h0_⟩
                                              have n1_ : Aside0 (w306.heap[gb170]? = some (.cells #[.int .i64 a2_0, .int .i64 a2_1] 27 (0, 0))) := ⟨h1_⟩
                                              have n2_ : Aside0 (w306.heap[gb175]? = some (.cells #[.string ((rd_T38 t171 (ji6)).f0), .int .i64 ((rd_T38 t171 (ji6)).f1), .int .i64 ((rd_T38 t171 (ji6)).f2)] 38 (0, 0))) := ⟨h2_⟩
                                              have n3_ : Aside0 (w306.heap[gb206]? = some (.cells #[.int .i64 0, .int .i64 0] 27 (0, 0))) := ⟨h3_⟩
                                              have n4_ : Aside0 (w.heap.size ≤ gb206) := ⟨h4_⟩
                                              have n5_ : Aside0 (w.heap.size ≤ gb206) := ⟨h5_⟩
                                              have n6_ : Aside0 (gb170 ≠ gb206) := ⟨h6_⟩
                                              have n7_ : Aside0 (gb206 ≠ gb170) := ⟨h7_⟩
                                              have n8_ : Aside0 (gb175 ≠ gb206) := ⟨h8_⟩
                                              have n9_ : Aside0 (gb206 ≠ gb175) := ⟨h9_⟩
                                              have n10_ : Aside0 (Below w.heap.size w w306) := ⟨h10_⟩
                                              clear HO173
                                              clear BK170
                                              clear BK175
                                              clear HB
                                              clear h0_ h1_ h2_ h3_ h4_ h5_ h6_ h7_ h8_ h9_ h10_
                                              have HO173 := n0_
                                              have BK170 := n1_
                                              have BK175 := n2_
                                              have BK206 := n3_
                                              have GW206 := n4_
                                              have GE206 := n5_
                                              have NB170_206 := n6_
                                              have NB206_170 := n7_
                                              have NB175_206 := n8_
                                              have NB206_175 := n9_
                                              have HB := n10_
                                              clear n0_ n1_ n2_ n3_ n4_ n5_ n6_ n7_ n8_ n9_ n10_
                                              have hHeld : w306.cell? ⟨gb175, 0, none⟩ = some (.string ((rd_T38 t171 (ji6)).f0)) ∧ w306.cell? ⟨gb175, 1, none⟩ = some (.int .i64 ((rd_T38 t171 (ji6)).f1)) ∧ w306.cell? ⟨gb175, 2, none⟩ = some (.int .i64 ((rd_T38 t171 (ji6)).f2)) ∧ w306.cell? ⟨gb170, 0, none⟩ = some (.int .i64 a2_0) ∧ w306.cell? ⟨gb170, 1, none⟩ = some (.int .i64 a2_1) := hS_
                                              refine norm_ (a' := ?_) ?_ ?_
                                              rotate_left
                                              · simp only [putAll, Act.put, List.setIfInBounds_toArray, List.set_cons_zero, List.set_cons_succ]
                                                rfl
                                              refine two_ (i := 5) (j := 13) (Ni := some 40) (Nj := some 12) #[true, true, true, true, true, true, true, false, false, false, false, false, true, false, false, false, false] #[true, true, true, true, true, false, true, false, false, false, false, false, true, true, false, false, false] rfl rfl rfl rfl (two_of HT_.out (by kernel_rfl)) (by decide) (by decide) (fun K hK => ?_) (fun K hK => ?_)
                                              · skip
                                                refine MR.lit_step (ok := fun _ => True) ((⟨#[97]⟩ : ByteArray) ++ ((rd_T38 t171 (ji6)).f0).extract 0 ((ji286) : Int).toNat) y198 Ny198.out SBy198 5 ?hg (N := 40) ?hd ?hr trivial ?_; (case hd => rfl); (case hg => rfl); (case hr => first | (go_simp; done) | (go_simp; rfl))
                                                intro v199 w307 ho308 hb hg_ hnew_
                                                clear hg_ hnew_
                                                skip
                                                have n0_ := Aside0.mk (Kd.R_below (by (with_reducible repeat (first | apply Kd.R_alloc | apply Kd.R_drewN | apply Kd.R_drew)); exact HO173.out) hb)
                                                have n1_ := Aside0.mk (MR.R_lower ho308 (below_size (by repeat (first | (with_reducible first | exact HB.out | apply below_alloc | apply pw_below_drewN | apply below_drew1 | refine below_set ?_ GE170.out | refine below_set ?_ GE175.out | refine below_set ?_ GE206.out) | exact HB.out))))
                                                have n2_ := Aside0.mk (blk_below (g := gb170) (o := .cells #[.int .i64 a2_0, .int .i64 a2_1] 27 (0, 0)) (by (with_reducible repeat (first | refine blk_drewN ?_ _ | refine blk_drew ?_ | refine blk_alloc ?_ _)); exact BK170.out) hb)
                                                have n3_ := Aside0.mk (blk_below (g := gb175) (o := .cells #[.string ((rd_T38 t171 (ji6)).f0), .int .i64 ((rd_T38 t171 (ji6)).f1), .int .i64 ((rd_T38 t171 (ji6)).f2)] 38 (0, 0)) (by (with_reducible repeat (first | refine blk_drewN ?_ _ | refine blk_drew ?_ | refine blk_alloc ?_ _)); exact BK175.out) hb)
                                                have n4_ := Aside0.mk (blk_below (g := gb206) (o := .cells #[.int .i64 0, .int .i64 0] 27 (0, 0)) (by (with_reducible repeat (first | refine blk_drewN ?_ _ | refine blk_drew ?_ | refine blk_alloc ?_ _)); exact BK206.out) hb)
                                                have n5_ := Aside0.mk (below_step (by repeat (first | (with_reducible first | exact HB.out | apply below_alloc | apply pw_below_drewN | apply below_drew1 | refine below_set ?_ GE170.out | refine below_set ?_ GE175.out | refine below_set ?_ GE206.out) | exact HB.out)) hb)
                                                clear HO173
                                                clear BK170
                                                clear BK175
                                                clear BK206
                                                clear HB
                                                have HO173 := n0_
                                                have HO200 := n1_
                                                have BK170 := n2_
                                                have BK175 := n3_
                                                have BK206 := n4_
                                                have HB := n5_
                                                clear n0_ n1_ n2_ n3_ n4_ n5_
                                                clear hb ho308
                                                refine hK.out _ _ ⟨(blk_cell BK175.out 0).trans rfl, (blk_cell BK175.out 1).trans rfl, (blk_cell BK175.out 2).trans rfl, (blk_cell BK170.out 0).trans rfl, (blk_cell BK170.out 1).trans rfl⟩ (fun hHeld => ?_)
                                                clear hK K
                                                refine norm_ (a' := ?_) ?_ ?_
                                                rotate_left
                                                · show Act.put _ (some 40) _ = _
                                                  simp only [Act.put, List.setIfInBounds_toArray, List.set_cons_zero, List.set_cons_succ, i64_w, i32_w]
                                                  rfl
                                                exact norm_ (by first | (simp only [putAll, Act.put, List.setIfInBounds_toArray, List.set_cons_zero, List.set_cons_succ]; done) | (simp only [putAll, Act.put, List.setIfInBounds_toArray, List.set_cons_zero, List.set_cons_succ]; rfl)) (hJ5_12 (v199, gb206) _ ⟨hHeld, (by (with_reducible repeat (first | apply Kd.R_alloc | apply Kd.R_drewN | apply Kd.R_drew)); exact HO173.out), (by (with_reducible repeat (first | apply MR.R_alloc | apply MR.R_drewN | apply MR.R_drew)); exact HO200.out), (by (with_reducible repeat (first | refine blk_drewN ?_ _ | refine blk_drew ?_ | refine blk_alloc ?_ _)); exact BK170.out), (by (with_reducible repeat (first | refine blk_drewN ?_ _ | refine blk_drew ?_ | refine blk_alloc ?_ _)); exact BK175.out), (by (with_reducible repeat (first | refine blk_drewN ?_ _ | refine blk_drew ?_ | refine blk_alloc ?_ _)); exact BK206.out), GW206.out, GE206.out, NB170_206.out, NB206_170.out, NB175_206.out, NB206_175.out, (by repeat (first | (with_reducible first | exact HB.out | apply below_alloc | apply pw_below_drewN | apply below_drew1 | refine below_set ?_ GE170.out | refine below_set ?_ GE175.out | refine below_set ?_ GE206.out) | exact HB.out))⟩)
                                              · skip
                                                refine box_step ?hg (N := 12) ?hd (cs := #[.int .i64 0, .int .i64 0]) (t := 30) ?hr ?_; (case hd => rfl); (case hg => rfl); (case hr => first | (go_simp; done) | (go_simp; rfl))
                                                intro gb207 hg w307 hbox hb
                                                have n0_ := Aside0.mk (Kd.R_below (by (with_reducible repeat (first | apply Kd.R_alloc | apply Kd.R_drewN | apply Kd.R_drew)); exact HO173.out) hb)
                                                have n1_ := Aside0.mk (blk_below (g := gb170) (o := .cells #[.int .i64 a2_0, .int .i64 a2_1] 27 (0, 0)) (by (with_reducible repeat (first | refine blk_drewN ?_ _ | refine blk_drew ?_ | refine blk_alloc ?_ _)); exact BK170.out) hb)
                                                have n2_ := Aside0.mk (blk_below (g := gb175) (o := .cells #[.string ((rd_T38 t171 (ji6)).f0), .int .i64 ((rd_T38 t171 (ji6)).f1), .int .i64 ((rd_T38 t171 (ji6)).f2)] 38 (0, 0)) (by (with_reducible repeat (first | refine blk_drewN ?_ _ | refine blk_drew ?_ | refine blk_alloc ?_ _)); exact BK175.out) hb)
                                                have n3_ := Aside0.mk (blk_below (g := gb206) (o := .cells #[.int .i64 0, .int .i64 0] 27 (0, 0)) (by (with_reducible repeat (first | refine blk_drewN ?_ _ | refine blk_drew ?_ | refine blk_alloc ?_ _)); exact BK206.out) hb)
                                                have n4_ := Aside0.mk (below_step (by repeat (first | (with_reducible first | exact HB.out | apply below_alloc | apply pw_below_drewN | apply below_drew1 | refine below_set ?_ GE170.out | refine below_set ?_ GE175.out | refine below_set ?_ GE206.out) | exact HB.out)) hb)
                                                have n5_ := Aside0.mk (hbox)
                                                have n6_ := Aside0.mk ((by rw [hg]; exact (below_size (by repeat (first | (with_reducible first | exact HB.out | apply below_alloc | apply pw_below_drewN | apply below_drew1 | refine below_set ?_ GE170.out | refine below_set ?_ GE175.out | refine below_set ?_ GE206.out) | exact HB.out))) : w.heap.size ≤ gb207))
                                                have n7_ := Aside0.mk ((by rw [hg]; exact (below_size (by repeat (first | (with_reducible first | exact HB.out | apply below_alloc | apply pw_below_drewN | apply below_drew1 | refine below_set ?_ GE170.out | refine below_set ?_ GE175.out | refine below_set ?_ GE206.out) | exact HB.out))) : w.heap.size ≤ gb207))
                                                have n8_ := Aside0.mk ((by rw [hg]; exact Nat.ne_of_lt (blk_lt (g := gb170) (o := .cells #[.int .i64 a2_0, .int .i64 a2_1] 27 (0, 0)) (by (with_reducible repeat (first | refine blk_drewN ?_ _ | refine blk_drew ?_ | refine blk_alloc ?_ _)); exact BK170.out)) : gb170 ≠ gb207))
                                                have n9_ := Aside0.mk ((by rw [hg]; exact Nat.ne_of_gt (blk_lt (g := gb170) (o := .cells #[.int .i64 a2_0, .int .i64 a2_1] 27 (0, 0)) (by (with_reducible repeat (first | refine blk_drewN ?_ _ | refine blk_drew ?_ | refine blk_alloc ?_ _)); exact BK170.out)) : gb207 ≠ gb170))
                                                have n10_ := Aside0.mk ((by rw [hg]; exact Nat.ne_of_lt (blk_lt (g := gb175) (o := .cells #[.string ((rd_T38 t171 (ji6)).f0), .int .i64 ((rd_T38 t171 (ji6)).f1), .int .i64 ((rd_T38 t171 (ji6)).f2)] 38 (0, 0)) (by (with_reducible repeat (first | refine blk_drewN ?_ _ | refine blk_drew ?_ | refine blk_alloc ?_ _)); exact BK175.out)) : gb175 ≠ gb207))
                                                have n11_ := Aside0.mk ((by rw [hg]; exact Nat.ne_of_gt (blk_lt (g := gb175) (o := .cells #[.string ((rd_T38 t171 (ji6)).f0), .int .i64 ((rd_T38 t171 (ji6)).f1), .int .i64 ((rd_T38 t171 (ji6)).f2)] 38 (0, 0)) (by (with_reducible repeat (first | refine blk_drewN ?_ _ | refine blk_drew ?_ | refine blk_alloc ?_ _)); exact BK175.out)) : gb207 ≠ gb175))
                                                have n12_ := Aside0.mk ((by rw [hg]; exact Nat.ne_of_lt (blk_lt (g := gb206) (o := .cells #[.int .i64 0, .int .i64 0] 27 (0, 0)) (by (with_reducible repeat (first | refine blk_drewN ?_ _ | refine blk_drew ?_ | refine blk_alloc ?_ _)); exact BK206.out)) : gb206 ≠ gb207))
                                                have n13_ := Aside0.mk ((by rw [hg]; exact Nat.ne_of_gt (blk_lt (g := gb206) (o := .cells #[.int .i64 0, .int .i64 0] 27 (0, 0)) (by (with_reducible repeat (first | refine blk_drewN ?_ _ | refine blk_drew ?_ | refine blk_alloc ?_ _)); exact BK206.out)) : gb207 ≠ gb206))
                                                clear HO173
                                                clear BK170
                                                clear BK175
                                                clear BK206
                                                clear HB
                                                have HO173 := n0_
                                                have BK170 := n1_
                                                have BK175 := n2_
                                                have BK206 := n3_
                                                have HB := n4_
                                                have BK207 := n5_
                                                have GW207 := n6_
                                                have GE207 := n7_
                                                have NB170_207 := n8_
                                                have NB207_170 := n9_
                                                have NB175_207 := n10_
                                                have NB207_175 := n11_
                                                have NB206_207 := n12_
                                                have NB207_206 := n13_
                                                clear n0_ n1_ n2_ n3_ n4_ n5_ n6_ n7_ n8_ n9_ n10_ n11_ n12_ n13_
                                                clear hb hbox hg
                                                refine hK.out _ _ ⟨(blk_cell BK175.out 0).trans rfl, (blk_cell BK175.out 1).trans rfl, (blk_cell BK175.out 2).trans rfl, (blk_cell BK170.out 0).trans rfl, (blk_cell BK170.out 1).trans rfl⟩ (fun hHeld => ?_)
                                                clear hK K
                                                refine norm_ (a' := ?_) ?_ ?_
                                                rotate_left
                                                · show Act.put _ (some 12) _ = _
                                                  simp only [Act.put, List.setIfInBounds_toArray, List.set_cons_zero, List.set_cons_succ, i64_w, i32_w]
                                                  rfl
                                                exact norm_ (by first | (simp only [putAll, Act.put, List.setIfInBounds_toArray, List.set_cons_zero, List.set_cons_succ]; done) | (simp only [putAll, Act.put, List.setIfInBounds_toArray, List.set_cons_zero, List.set_cons_succ]; rfl)) (hJ12_13 (gb206, gb207) _ ⟨hHeld, (by (with_reducible repeat (first | apply Kd.R_alloc | apply Kd.R_drewN | apply Kd.R_drew)); exact HO173.out), (by (with_reducible repeat (first | refine blk_drewN ?_ _ | refine blk_drew ?_ | refine blk_alloc ?_ _)); exact BK170.out), (by (with_reducible repeat (first | refine blk_drewN ?_ _ | refine blk_drew ?_ | refine blk_alloc ?_ _)); exact BK175.out), (by (with_reducible repeat (first | refine blk_drewN ?_ _ | refine blk_drew ?_ | refine blk_alloc ?_ _)); exact BK206.out), (by (with_reducible repeat (first | refine blk_drewN ?_ _ | refine blk_drew ?_ | refine blk_alloc ?_ _)); exact BK207.out), GW206.out, GE206.out, NB170_206.out, NB206_170.out, NB175_206.out, NB206_175.out, NB207_206.out, NB206_207.out, GW207.out, GE207.out, NB170_207.out, NB207_170.out, NB175_207.out, NB207_175.out, (by repeat (first | (with_reducible first | exact HB.out | apply below_alloc | apply pw_below_drewN | apply below_drew1 | refine below_set ?_ GE170.out | refine below_set ?_ GE175.out | refine below_set ?_ GE206.out | refine below_set ?_ GE207.out) | exact HB.out))⟩)
                                          · skip
                                            rintro v199 w307 ⟨hS_, h0_, h1_, h2_, h3_, h4_⟩
                                            have n0_ : Aside0 (Kd.R k38 38 w307 w.heap.size (fun k_ => k_ ≠ gb175) (.slice (some ad174) t171.length co299) t171) := ⟨h0_⟩
                                            have n1_ : Aside0 (MR 5 w307 w.heap.size (fun _ => True) v199 y198) := ⟨h1_⟩
                                            have n2_ : Aside0 (w307.heap[gb170]? = some (.cells #[.int .i64 a2_0, .int .i64 a2_1] 27 (0, 0))) := ⟨h2_⟩
                                            have n3_ : Aside0 (w307.heap[gb175]? = some (.cells #[.string ((rd_T38 t171 (ji6)).f0), .int .i64 ((rd_T38 t171 (ji6)).f1), .int .i64 ((rd_T38 t171 (ji6)).f2)] 38 (0, 0))) := ⟨h3_⟩
                                            have n4_ : Aside0 (Below w.heap.size w w307) := ⟨h4_⟩
                                            clear HO173
                                            clear BK170
                                            clear BK175
                                            clear HB
                                            clear h0_ h1_ h2_ h3_ h4_
                                            have HO173 := n0_
                                            have HO200 := n1_
                                            have BK170 := n2_
                                            have BK175 := n3_
                                            have HB := n4_
                                            clear n0_ n1_ n2_ n3_ n4_
                                            have hHeld : w307.cell? ⟨gb175, 0, none⟩ = some (.string ((rd_T38 t171 (ji6)).f0)) ∧ w307.cell? ⟨gb175, 1, none⟩ = some (.int .i64 ((rd_T38 t171 (ji6)).f1)) ∧ w307.cell? ⟨gb175, 2, none⟩ = some (.int .i64 ((rd_T38 t171 (ji6)).f2)) ∧ w307.cell? ⟨gb170, 0, none⟩ = some (.int .i64 a2_0) ∧ w307.cell? ⟨gb170, 1, none⟩ = some (.int .i64 a2_1) := hS_
                                            obtain ⟨Ao308, co308, eo308⟩ := MR.R_slice HO200.out
                                            (first | subst eo308 | (injection eo308 with f1_ f2_ f3_; have f4_ := f1_.symm; have f5_ := f3_.symm; clear f1_ f2_ f3_; subst f4_; subst f5_))
                                            refine norm_ (a' := ?_) ?_ ?_
                                            rotate_left
                                            · simp only [putAll, Act.put, List.setIfInBounds_toArray, List.set_cons_zero, List.set_cons_succ]
                                              rfl
                                            refine three_ (i := 7) (j := 12) (k := 13) (Ni := some 42) (Nj := some 10) (Nk := some 12) #[true, true, true, true, true, true, true, true, false, false, false, false, false, false, false, false, false] #[true, true, true, true, true, true, true, false, false, false, false, false, true, false, false, false, false] #[true, true, true, true, true, true, true, false, false, false, false, false, false, true, false, false, false] rfl rfl rfl rfl rfl rfl (three_of HT_.out (by kernel_rfl)) (by decide) (by decide) (by decide) (fun K hK => ?_) (fun K hK => ?_) (fun K hK => ?_)
                                            · skip
                                              refine goes_ Try.func23 (by kernel_rfl) rfl #[.slice Ao308 y198.length co308, .int .i64 1, .agg #[.int .i64 a2_0, .int .i64 a2_1]] (by rfl) rfl rfl (by (try simp only [List.map_toArray, List.map_cons, List.map_nil]); first | done | rfl | (simp only [List.length_drop, List.length_take]; rfl)) ?_
                                              with_reducible refine (escape_Next.calls k _ _ y198 1 a2_0 a2_1 t201 t202 t203 t204 t205 _ ?side1 ?side2 A290.out).mono ?_
                                              (case side1 => repeat (first | exact (MR.R_reads' HO200.out).2.2 | (with_reducible refine Kd.C_alloc ?_ _) | (with_reducible refine Kd.C_drewN ?_ _) | (with_reducible refine Kd.C_drew ?_)))
                                              (case side2 => exact (MR.R_reads' HO200.out).2.1)
                                              rintro e w309 ⟨rfl, hb⟩
                                              refine ⟨_, rfl, ?_⟩
                                              have n0_ := Aside0.mk (Kd.R_below (by (with_reducible repeat (first | apply Kd.R_alloc | apply Kd.R_drewN | apply Kd.R_drew)); exact HO173.out) hb)
                                              have n1_ := Aside0.mk (MR.R_below (by (with_reducible repeat (first | apply MR.R_alloc | apply MR.R_drewN | apply MR.R_drew)); exact HO200.out) hb)
                                              have n2_ := Aside0.mk (blk_below (g := gb170) (o := .cells #[.int .i64 a2_0, .int .i64 a2_1] 27 (0, 0)) (by (with_reducible repeat (first | refine blk_drewN ?_ _ | refine blk_drew ?_ | refine blk_alloc ?_ _)); exact BK170.out) hb)
                                              have n3_ := Aside0.mk (blk_below (g := gb175) (o := .cells #[.string ((rd_T38 t171 (ji6)).f0), .int .i64 ((rd_T38 t171 (ji6)).f1), .int .i64 ((rd_T38 t171 (ji6)).f2)] 38 (0, 0)) (by (with_reducible repeat (first | refine blk_drewN ?_ _ | refine blk_drew ?_ | refine blk_alloc ?_ _)); exact BK175.out) hb)
                                              have n4_ := Aside0.mk (below_step (by repeat (first | (with_reducible first | exact HB.out | apply below_alloc | apply pw_below_drewN | apply below_drew1 | refine below_set ?_ GE170.out | refine below_set ?_ GE175.out) | exact HB.out)) hb)
                                              clear HO173
                                              clear HO200
                                              clear BK170
                                              clear BK175
                                              clear HB
                                              have HO173 := n0_
                                              have HO200 := n1_
                                              have BK170 := n2_
                                              have BK175 := n3_
                                              have HB := n4_
                                              clear n0_ n1_ n2_ n3_ n4_
                                              (try clear hb)
                                              (try clear hb2)
                                              (try clear hk)
                                              (try clear hi)
                                              refine hK.out _ _ ⟨(blk_cell BK175.out 0).trans rfl, (blk_cell BK175.out 1).trans rfl, (blk_cell BK175.out 2).trans rfl, (blk_cell BK170.out 0).trans rfl, (blk_cell BK170.out 1).trans rfl⟩ (fun hHeld => ?_)
                                              clear hK K
                                              refine norm_ (a' := ?_) ?_ ?_
                                              rotate_left
                                              · show Act.put _ (some 42) _ = _
                                                simp only [Act.put, List.setIfInBounds_toArray, List.set_cons_zero, List.set_cons_succ, i64_w, i32_w]
                                                rfl
                                              refine pure_ (i := 8) (N := some 34) (v := ?_) (a' := ?_) #[true, true, true, true, true, true, true, true, true, false, false, false, false, false, false, false, false] rfl rfl (any_of HT_.out (by kernel_rfl)) (fun _ _ _ h => h) (Or.inl ⟨by rfl, ?_⟩) ?_ ?_
                                              rotate_left
                                              · intro w'
                                                go_simp
                                                with_reducible rfl
                                              rotate_left
                                              · simp only [Act.put, List.setIfInBounds_toArray, List.set_cons_zero, List.set_cons_succ, i64_w, i32_w]
                                                rfl
                                              refine pure_ (i := 9) (N := some 43) (v := ?_) (a' := ?_) #[true, true, true, true, true, true, true, true, true, true, false, false, false, false, false, false, false] rfl rfl (any_of HT_.out (by kernel_rfl)) (fun _ _ _ h => h) (Or.inl ⟨by rfl, ?_⟩) ?_ ?_
                                              rotate_left
                                              · intro w'
                                                go_simp
                                                with_reducible rfl
                                              rotate_left
                                              · simp only [Act.put, List.setIfInBounds_toArray, List.set_cons_zero, List.set_cons_succ, i64_w, i32_w]
                                                rfl
                                              refine pure_ (i := 10) (N := some 44) (v := ?_) (a' := ?_) #[true, true, true, true, true, true, true, true, true, true, true, false, false, false, false, false, false] rfl rfl (any_of HT_.out (by kernel_rfl)) (fun _ _ _ h => h) (Or.inl ⟨by rfl, ?_⟩) ?_ ?_
                                              rotate_left
                                              · intro w'
                                                go_simp
                                                with_reducible rfl
                                              rotate_left
                                              · simp only [Act.put, List.setIfInBounds_toArray, List.set_cons_zero, List.set_cons_succ, i64_w, i32_w]
                                                rfl
                                              refine pure_ (i := 11) (N := some 45) (v := ?_) (a' := ?_) #[true, true, true, true, true, true, true, true, true, true, true, true, false, false, false, false, false] rfl rfl (any_of HT_.out (by kernel_rfl)) (fun _ _ _ h => h) (Or.inl ⟨by rfl, ?_⟩) ?_ ?_
                                              rotate_left
                                              · intro w'
                                                go_simp
                                                with_reducible rfl
                                              rotate_left
                                              · simp only [Act.put, List.setIfInBounds_toArray, List.set_cons_zero, List.set_cons_succ, i64_w, i32_w]
                                                rfl
                                              exact norm_ (by first | (simp only [putAll, Act.put, List.setIfInBounds_toArray, List.set_cons_zero, List.set_cons_succ]; done) | (simp only [putAll, Act.put, List.setIfInBounds_toArray, List.set_cons_zero, List.set_cons_succ]; rfl)) (hJ5_7 (.slice Ao308 y198.length co308) _ ⟨hHeld, (by (with_reducible repeat (first | apply Kd.R_alloc | apply Kd.R_drewN | apply Kd.R_drew)); exact HO173.out), (by (with_reducible repeat (first | apply MR.R_alloc | apply MR.R_drewN | apply MR.R_drew)); exact HO200.out), (by (with_reducible repeat (first | refine blk_drewN ?_ _ | refine blk_drew ?_ | refine blk_alloc ?_ _)); exact BK170.out), (by (with_reducible repeat (first | refine blk_drewN ?_ _ | refine blk_drew ?_ | refine blk_alloc ?_ _)); exact BK175.out), (by repeat (first | (with_reducible first | exact HB.out | apply below_alloc | apply pw_below_drewN | apply below_drew1 | refine below_set ?_ GE170.out | refine below_set ?_ GE175.out) | exact HB.out))⟩)
                                            · skip
                                              refine box_step ?hg (N := 10) ?hd (cs := #[.int .i64 0, .int .i64 0]) (t := 27) ?hr ?_; (case hd => rfl); (case hg => rfl); (case hr => first | (go_simp; done) | (go_simp; rfl))
                                              intro gb206 hg w308 hbox hb
                                              have n0_ := Aside0.mk (Kd.R_below (by (with_reducible repeat (first | apply Kd.R_alloc | apply Kd.R_drewN | apply Kd.R_drew)); exact HO173.out) hb)
                                              have n1_ := Aside0.mk (MR.R_below (by (with_reducible repeat (first | apply MR.R_alloc | apply MR.R_drewN | apply MR.R_drew)); exact HO200.out) hb)
                                              have n2_ := Aside0.mk (blk_below (g := gb170) (o := .cells #[.int .i64 a2_0, .int .i64 a2_1] 27 (0, 0)) (by (with_reducible repeat (first | refine blk_drewN ?_ _ | refine blk_drew ?_ | refine blk_alloc ?_ _)); exact BK170.out) hb)
                                              have n3_ := Aside0.mk (blk_below (g := gb175) (o := .cells #[.string ((rd_T38 t171 (ji6)).f0), .int .i64 ((rd_T38 t171 (ji6)).f1), .int .i64 ((rd_T38 t171 (ji6)).f2)] 38 (0, 0)) (by (with_reducible repeat (first | refine blk_drewN ?_ _ | refine blk_drew ?_ | refine blk_alloc ?_ _)); exact BK175.out) hb)
                                              have n4_ := Aside0.mk (below_step (by repeat (first | (with_reducible first | exact HB.out | apply below_alloc | apply pw_below_drewN | apply below_drew1 | refine below_set ?_ GE170.out | refine below_set ?_ GE175.out) | exact HB.out)) hb)
                                              have n5_ := Aside0.mk (hbox)
                                              have n6_ := Aside0.mk ((by rw [hg]; exact (below_size (by repeat (first | (with_reducible first | exact HB.out | apply below_alloc | apply pw_below_drewN | apply below_drew1 | refine below_set ?_ GE170.out | refine below_set ?_ GE175.out) | exact HB.out))) : w.heap.size ≤ gb206))
                                              have n7_ := Aside0.mk ((by rw [hg]; exact (below_size (by repeat (first | (with_reducible first | exact HB.out | apply below_alloc | apply pw_below_drewN | apply below_drew1 | refine below_set ?_ GE170.out | refine below_set ?_ GE175.out) | exact HB.out))) : w.heap.size ≤ gb206))
                                              have n8_ := Aside0.mk ((by rw [hg]; exact Nat.ne_of_lt (blk_lt (g := gb170) (o := .cells #[.int .i64 a2_0, .int .i64 a2_1] 27 (0, 0)) (by (with_reducible repeat (first | refine blk_drewN ?_ _ | refine blk_drew ?_ | refine blk_alloc ?_ _)); exact BK170.out)) : gb170 ≠ gb206))
                                              have n9_ := Aside0.mk ((by rw [hg]; exact Nat.ne_of_gt (blk_lt (g := gb170) (o := .cells #[.int .i64 a2_0, .int .i64 a2_1] 27 (0, 0)) (by (with_reducible repeat (first | refine blk_drewN ?_ _ | refine blk_drew ?_ | refine blk_alloc ?_ _)); exact BK170.out)) : gb206 ≠ gb170))
                                              have n10_ := Aside0.mk ((by rw [hg]; exact Nat.ne_of_lt (blk_lt (g := gb175) (o := .cells #[.string ((rd_T38 t171 (ji6)).f0), .int .i64 ((rd_T38 t171 (ji6)).f1), .int .i64 ((rd_T38 t171 (ji6)).f2)] 38 (0, 0)) (by (with_reducible repeat (first | refine blk_drewN ?_ _ | refine blk_drew ?_ | refine blk_alloc ?_ _)); exact BK175.out)) : gb175 ≠ gb206))
                                              have n11_ := Aside0.mk ((by rw [hg]; exact Nat.ne_of_gt (blk_lt (g := gb175) (o := .cells #[.string ((rd_T38 t171 (ji6)).f0), .int .i64 ((rd_T38 t171 (ji6)).f1), .int .i64 ((rd_T38 t171 (ji6)).f2)] 38 (0, 0)) (by (with_reducible repeat (first | refine blk_drewN ?_ _ | refine blk_drew ?_ | refine blk_alloc ?_ _)); exact BK175.out)) : gb206 ≠ gb175))
                                              clear HO173
                                              clear HO200
                                              clear BK170
                                              clear BK175
                                              clear HB
                                              have HO173 := n0_
                                              have HO200 := n1_
                                              have BK170 := n2_
                                              have BK175 := n3_
                                              have HB := n4_
                                              have BK206 := n5_
                                              have GW206 := n6_
                                              have GE206 := n7_
                                              have NB170_206 := n8_
                                              have NB206_170 := n9_
                                              have NB175_206 := n10_
                                              have NB206_175 := n11_
                                              clear n0_ n1_ n2_ n3_ n4_ n5_ n6_ n7_ n8_ n9_ n10_ n11_
                                              clear hb hbox hg
                                              refine hK.out _ _ ⟨(blk_cell BK175.out 0).trans rfl, (blk_cell BK175.out 1).trans rfl, (blk_cell BK175.out 2).trans rfl, (blk_cell BK170.out 0).trans rfl, (blk_cell BK170.out 1).trans rfl⟩ (fun hHeld => ?_)
                                              clear hK K
                                              refine norm_ (a' := ?_) ?_ ?_
                                              rotate_left
                                              · show Act.put _ (some 10) _ = _
                                                simp only [Act.put, List.setIfInBounds_toArray, List.set_cons_zero, List.set_cons_succ, i64_w, i32_w]
                                                rfl
                                              exact norm_ (by first | (simp only [putAll, Act.put, List.setIfInBounds_toArray, List.set_cons_zero, List.set_cons_succ]; done) | (simp only [putAll, Act.put, List.setIfInBounds_toArray, List.set_cons_zero, List.set_cons_succ]; rfl)) (hJ5_12 ((.slice Ao308 y198.length co308), gb206) _ ⟨hHeld, (by (with_reducible repeat (first | apply Kd.R_alloc | apply Kd.R_drewN | apply Kd.R_drew)); exact HO173.out), (by (with_reducible repeat (first | apply MR.R_alloc | apply MR.R_drewN | apply MR.R_drew)); exact HO200.out), (by (with_reducible repeat (first | refine blk_drewN ?_ _ | refine blk_drew ?_ | refine blk_alloc ?_ _)); exact BK170.out), (by (with_reducible repeat (first | refine blk_drewN ?_ _ | refine blk_drew ?_ | refine blk_alloc ?_ _)); exact BK175.out), (by (with_reducible repeat (first | refine blk_drewN ?_ _ | refine blk_drew ?_ | refine blk_alloc ?_ _)); exact BK206.out), GW206.out, GE206.out, NB170_206.out, NB206_170.out, NB175_206.out, NB206_175.out, (by repeat (first | (with_reducible first | exact HB.out | apply below_alloc | apply pw_below_drewN | apply below_drew1 | refine below_set ?_ GE170.out | refine below_set ?_ GE175.out | refine below_set ?_ GE206.out) | exact HB.out))⟩)
                                            · skip
                                              refine box_step ?hg (N := 12) ?hd (cs := #[.int .i64 0, .int .i64 0]) (t := 30) ?hr ?_; (case hd => rfl); (case hg => rfl); (case hr => first | (go_simp; done) | (go_simp; rfl))
                                              intro gb207 hg w308 hbox hb
                                              have n0_ := Aside0.mk (Kd.R_below (by (with_reducible repeat (first | apply Kd.R_alloc | apply Kd.R_drewN | apply Kd.R_drew)); exact HO173.out) hb)
                                              have n1_ := Aside0.mk (MR.R_below (by (with_reducible repeat (first | apply MR.R_alloc | apply MR.R_drewN | apply MR.R_drew)); exact HO200.out) hb)
                                              have n2_ := Aside0.mk (blk_below (g := gb170) (o := .cells #[.int .i64 a2_0, .int .i64 a2_1] 27 (0, 0)) (by (with_reducible repeat (first | refine blk_drewN ?_ _ | refine blk_drew ?_ | refine blk_alloc ?_ _)); exact BK170.out) hb)
                                              have n3_ := Aside0.mk (blk_below (g := gb175) (o := .cells #[.string ((rd_T38 t171 (ji6)).f0), .int .i64 ((rd_T38 t171 (ji6)).f1), .int .i64 ((rd_T38 t171 (ji6)).f2)] 38 (0, 0)) (by (with_reducible repeat (first | refine blk_drewN ?_ _ | refine blk_drew ?_ | refine blk_alloc ?_ _)); exact BK175.out) hb)
                                              have n4_ := Aside0.mk (below_step (by repeat (first | (with_reducible first | exact HB.out | apply below_alloc | apply pw_below_drewN | apply below_drew1 | refine below_set ?_ GE170.out | refine below_set ?_ GE175.out) | exact HB.out)) hb)
                                              have n5_ := Aside0.mk (hbox)
                                              have n6_ := Aside0.mk ((by rw [hg]; exact (below_size (by repeat (first | (with_reducible first | exact HB.out | apply below_alloc | apply pw_below_drewN | apply below_drew1 | refine below_set ?_ GE170.out | refine below_set ?_ GE175.out) | exact HB.out))) : w.heap.size ≤ gb207))
                                              have n7_ := Aside0.mk ((by rw [hg]; exact (below_size (by repeat (first | (with_reducible first | exact HB.out | apply below_alloc | apply pw_below_drewN | apply below_drew1 | refine below_set ?_ GE170.out | refine below_set ?_ GE175.out) | exact HB.out))) : w.heap.size ≤ gb207))
                                              have n8_ := Aside0.mk ((by rw [hg]; exact Nat.ne_of_lt (blk_lt (g := gb170) (o := .cells #[.int .i64 a2_0, .int .i64 a2_1] 27 (0, 0)) (by (with_reducible repeat (first | refine blk_drewN ?_ _ | refine blk_drew ?_ | refine blk_alloc ?_ _)); exact BK170.out)) : gb170 ≠ gb207))
                                              have n9_ := Aside0.mk ((by rw [hg]; exact Nat.ne_of_gt (blk_lt (g := gb170) (o := .cells #[.int .i64 a2_0, .int .i64 a2_1] 27 (0, 0)) (by (with_reducible repeat (first | refine blk_drewN ?_ _ | refine blk_drew ?_ | refine blk_alloc ?_ _)); exact BK170.out)) : gb207 ≠ gb170))
                                              have n10_ := Aside0.mk ((by rw [hg]; exact Nat.ne_of_lt (blk_lt (g := gb175) (o := .cells #[.string ((rd_T38 t171 (ji6)).f0), .int .i64 ((rd_T38 t171 (ji6)).f1), .int .i64 ((rd_T38 t171 (ji6)).f2)] 38 (0, 0)) (by (with_reducible repeat (first | refine blk_drewN ?_ _ | refine blk_drew ?_ | refine blk_alloc ?_ _)); exact BK175.out)) : gb175 ≠ gb207))
                                              have n11_ := Aside0.mk ((by rw [hg]; exact Nat.ne_of_gt (blk_lt (g := gb175) (o := .cells #[.string ((rd_T38 t171 (ji6)).f0), .int .i64 ((rd_T38 t171 (ji6)).f1), .int .i64 ((rd_T38 t171 (ji6)).f2)] 38 (0, 0)) (by (with_reducible repeat (first | refine blk_drewN ?_ _ | refine blk_drew ?_ | refine blk_alloc ?_ _)); exact BK175.out)) : gb207 ≠ gb175))
                                              clear HO173
                                              clear HO200
                                              clear BK170
                                              clear BK175
                                              clear HB
                                              have HO173 := n0_
                                              have HO200 := n1_
                                              have BK170 := n2_
                                              have BK175 := n3_
                                              have HB := n4_
                                              have BK207 := n5_
                                              have GW207 := n6_
                                              have GE207 := n7_
                                              have NB170_207 := n8_
                                              have NB207_170 := n9_
                                              have NB175_207 := n10_
                                              have NB207_175 := n11_
                                              clear n0_ n1_ n2_ n3_ n4_ n5_ n6_ n7_ n8_ n9_ n10_ n11_
                                              clear hb hbox hg
                                              refine hK.out _ _ ⟨(blk_cell BK175.out 0).trans rfl, (blk_cell BK175.out 1).trans rfl, (blk_cell BK175.out 2).trans rfl, (blk_cell BK170.out 0).trans rfl, (blk_cell BK170.out 1).trans rfl⟩ (fun hHeld => ?_)
                                              clear hK K
                                              refine norm_ (a' := ?_) ?_ ?_
                                              rotate_left
                                              · show Act.put _ (some 12) _ = _
                                                simp only [Act.put, List.setIfInBounds_toArray, List.set_cons_zero, List.set_cons_succ, i64_w, i32_w]
                                                rfl
                                              exact norm_ (by first | (simp only [putAll, Act.put, List.setIfInBounds_toArray, List.set_cons_zero, List.set_cons_succ]; done) | (simp only [putAll, Act.put, List.setIfInBounds_toArray, List.set_cons_zero, List.set_cons_succ]; rfl)) (hJ5_13 ((.slice Ao308 y198.length co308), gb207) _ ⟨hHeld, (by (with_reducible repeat (first | apply Kd.R_alloc | apply Kd.R_drewN | apply Kd.R_drew)); exact HO173.out), (by (with_reducible repeat (first | apply MR.R_alloc | apply MR.R_drewN | apply MR.R_drew)); exact HO200.out), (by (with_reducible repeat (first | refine blk_drewN ?_ _ | refine blk_drew ?_ | refine blk_alloc ?_ _)); exact BK170.out), (by (with_reducible repeat (first | refine blk_drewN ?_ _ | refine blk_drew ?_ | refine blk_alloc ?_ _)); exact BK175.out), (by (with_reducible repeat (first | refine blk_drewN ?_ _ | refine blk_drew ?_ | refine blk_alloc ?_ _)); exact BK207.out), GW207.out, GE207.out, NB170_207.out, NB207_170.out, NB175_207.out, NB207_175.out, (by repeat (first | (with_reducible first | exact HB.out | apply below_alloc | apply pw_below_drewN | apply below_drew1 | refine below_set ?_ GE170.out | refine below_set ?_ GE175.out | refine below_set ?_ GE207.out) | exact HB.out))⟩)
                                        · skip
                                          rintro ⟨gb206, gb207⟩ w307 ⟨hS_, h0_, h1_, h2_, h3_, h4_, h5_, h6_, h7_, h8_, h9_, h10_, h11_, h12_, h13_, h14_, h15_, h16_, h17_, h18_, h19_⟩
                                          have n0_ : Aside0 (Kd.R k38 38 w307 w.heap.size (fun k_ => k_ ≠ gb175) (.slice (some ad174) t171.length co299) t171) := ⟨h0_⟩
                                          have n1_ : Aside0 (w307.heap[gb170]? = some (.cells #[.int .i64 a2_0, .int .i64 a2_1] 27 (0, 0))) := ⟨h1_⟩
                                          have n2_ : Aside0 (w307.heap[gb175]? = some (.cells #[.string ((rd_T38 t171 (ji6)).f0), .int .i64 ((rd_T38 t171 (ji6)).f1), .int .i64 ((rd_T38 t171 (ji6)).f2)] 38 (0, 0))) := ⟨h2_⟩
                                          have n3_ : Aside0 (w307.heap[gb206]? = some (.cells #[.int .i64 0, .int .i64 0] 27 (0, 0))) := ⟨h3_⟩
                                          have n4_ : Aside0 (w307.heap[gb207]? = some (.cells #[.int .i64 0, .int .i64 0] 30 (0, 0))) := ⟨h4_⟩
                                          have n5_ : Aside0 (w.heap.size ≤ gb206) := ⟨h5_⟩
                                          have n6_ : Aside0 (w.heap.size ≤ gb206) := ⟨h6_⟩
                                          have n7_ : Aside0 (gb170 ≠ gb206) := ⟨h7_⟩
                                          have n8_ : Aside0 (gb206 ≠ gb170) := ⟨h8_⟩
                                          have n9_ : Aside0 (gb175 ≠ gb206) := ⟨h9_⟩
                                          have n10_ : Aside0 (gb206 ≠ gb175) := ⟨h10_⟩
                                          have n11_ : Aside0 (gb207 ≠ gb206) := ⟨h11_⟩
                                          have n12_ : Aside0 (gb206 ≠ gb207) := ⟨h12_⟩
                                          have n13_ : Aside0 (w.heap.size ≤ gb207) := ⟨h13_⟩
                                          have n14_ : Aside0 (w.heap.size ≤ gb207) := ⟨h14_⟩
                                          have n15_ : Aside0 (gb170 ≠ gb207) := ⟨h15_⟩
                                          have n16_ : Aside0 (gb207 ≠ gb170) := ⟨h16_⟩
                                          have n17_ : Aside0 (gb175 ≠ gb207) := ⟨h17_⟩
                                          have n18_ : Aside0 (gb207 ≠ gb175) := ⟨h18_⟩
                                          have n19_ : Aside0 (Below w.heap.size w w307) := ⟨h19_⟩
                                          clear HO173
                                          clear BK170
                                          clear BK175
                                          clear HB
                                          clear h0_ h1_ h2_ h3_ h4_ h5_ h6_ h7_ h8_ h9_ h10_ h11_ h12_ h13_ h14_ h15_ h16_ h17_ h18_ h19_
                                          have HO173 := n0_
                                          have BK170 := n1_
                                          have BK175 := n2_
                                          have BK206 := n3_
                                          have BK207 := n4_
                                          have GW206 := n5_
                                          have GE206 := n6_
                                          have NB170_206 := n7_
                                          have NB206_170 := n8_
                                          have NB175_206 := n9_
                                          have NB206_175 := n10_
                                          have NB207_206 := n11_
                                          have NB206_207 := n12_
                                          have GW207 := n13_
                                          have GE207 := n14_
                                          have NB170_207 := n15_
                                          have NB207_170 := n16_
                                          have NB175_207 := n17_
                                          have NB207_175 := n18_
                                          have HB := n19_
                                          clear n0_ n1_ n2_ n3_ n4_ n5_ n6_ n7_ n8_ n9_ n10_ n11_ n12_ n13_ n14_ n15_ n16_ n17_ n18_ n19_
                                          have hHeld : w307.cell? ⟨gb175, 0, none⟩ = some (.string ((rd_T38 t171 (ji6)).f0)) ∧ w307.cell? ⟨gb175, 1, none⟩ = some (.int .i64 ((rd_T38 t171 (ji6)).f1)) ∧ w307.cell? ⟨gb175, 2, none⟩ = some (.int .i64 ((rd_T38 t171 (ji6)).f2)) ∧ w307.cell? ⟨gb170, 0, none⟩ = some (.int .i64 a2_0) ∧ w307.cell? ⟨gb170, 1, none⟩ = some (.int .i64 a2_1) := hS_
                                          refine norm_ (a' := ?_) ?_ ?_
                                          rotate_left
                                          · simp only [putAll, Act.put, List.setIfInBounds_toArray, List.set_cons_zero, List.set_cons_succ]
                                            rfl
                                          refine one_ (i := 5) (N := some 40) #[true, true, true, true, true, true, true, false, false, false, false, false, true, true, false, false, false] rfl rfl (one_of HT_.out (by kernel_rfl)) (by decide) (fun K hK => ?_)
                                          refine MR.lit_step (ok := fun _ => True) ((⟨#[97]⟩ : ByteArray) ++ ((rd_T38 t171 (ji6)).f0).extract 0 ((ji286) : Int).toNat) y198 Ny198.out SBy198 5 ?hg (N := 40) ?hd ?hr trivial ?_; (case hd => rfl); (case hg => rfl); (case hr => first | (go_simp; done) | (go_simp; rfl))
                                          intro v199 w308 ho309 hb hg_ hnew_
                                          clear hg_ hnew_
                                          skip
                                          have n0_ := Aside0.mk (Kd.R_below (by (with_reducible repeat (first | apply Kd.R_alloc | apply Kd.R_drewN | apply Kd.R_drew)); exact HO173.out) hb)
                                          have n1_ := Aside0.mk (MR.R_lower ho309 (below_size (by repeat (first | (with_reducible first | exact HB.out | apply below_alloc | apply pw_below_drewN | apply below_drew1 | refine below_set ?_ GE170.out | refine below_set ?_ GE175.out | refine below_set ?_ GE206.out | refine below_set ?_ GE207.out) | exact HB.out))))
                                          have n2_ := Aside0.mk (blk_below (g := gb170) (o := .cells #[.int .i64 a2_0, .int .i64 a2_1] 27 (0, 0)) (by (with_reducible repeat (first | refine blk_drewN ?_ _ | refine blk_drew ?_ | refine blk_alloc ?_ _)); exact BK170.out) hb)
                                          have n3_ := Aside0.mk (blk_below (g := gb175) (o := .cells #[.string ((rd_T38 t171 (ji6)).f0), .int .i64 ((rd_T38 t171 (ji6)).f1), .int .i64 ((rd_T38 t171 (ji6)).f2)] 38 (0, 0)) (by (with_reducible repeat (first | refine blk_drewN ?_ _ | refine blk_drew ?_ | refine blk_alloc ?_ _)); exact BK175.out) hb)
                                          have n4_ := Aside0.mk (blk_below (g := gb206) (o := .cells #[.int .i64 0, .int .i64 0] 27 (0, 0)) (by (with_reducible repeat (first | refine blk_drewN ?_ _ | refine blk_drew ?_ | refine blk_alloc ?_ _)); exact BK206.out) hb)
                                          have n5_ := Aside0.mk (blk_below (g := gb207) (o := .cells #[.int .i64 0, .int .i64 0] 30 (0, 0)) (by (with_reducible repeat (first | refine blk_drewN ?_ _ | refine blk_drew ?_ | refine blk_alloc ?_ _)); exact BK207.out) hb)
                                          have n6_ := Aside0.mk (below_step (by repeat (first | (with_reducible first | exact HB.out | apply below_alloc | apply pw_below_drewN | apply below_drew1 | refine below_set ?_ GE170.out | refine below_set ?_ GE175.out | refine below_set ?_ GE206.out | refine below_set ?_ GE207.out) | exact HB.out)) hb)
                                          clear HO173
                                          clear BK170
                                          clear BK175
                                          clear BK206
                                          clear BK207
                                          clear HB
                                          have HO173 := n0_
                                          have HO200 := n1_
                                          have BK170 := n2_
                                          have BK175 := n3_
                                          have BK206 := n4_
                                          have BK207 := n5_
                                          have HB := n6_
                                          clear n0_ n1_ n2_ n3_ n4_ n5_ n6_
                                          clear hb ho309
                                          refine hK.out _ _ ⟨(blk_cell BK175.out 0).trans rfl, (blk_cell BK175.out 1).trans rfl, (blk_cell BK175.out 2).trans rfl, (blk_cell BK170.out 0).trans rfl, (blk_cell BK170.out 1).trans rfl⟩ (fun hHeld => ?_)
                                          clear hK K
                                          refine norm_ (a' := ?_) ?_ ?_
                                          rotate_left
                                          · show Act.put _ (some 40) _ = _
                                            simp only [Act.put, List.setIfInBounds_toArray, List.set_cons_zero, List.set_cons_succ, i64_w, i32_w]
                                            rfl
                                          exact norm_ (by first | (simp only [putAll, Act.put, List.setIfInBounds_toArray, List.set_cons_zero, List.set_cons_succ]; done) | (simp only [putAll, Act.put, List.setIfInBounds_toArray, List.set_cons_zero, List.set_cons_succ]; rfl)) (hJ5_12_13 (v199, gb206, gb207) _ ⟨hHeld, (by (with_reducible repeat (first | apply Kd.R_alloc | apply Kd.R_drewN | apply Kd.R_drew)); exact HO173.out), (by (with_reducible repeat (first | apply MR.R_alloc | apply MR.R_drewN | apply MR.R_drew)); exact HO200.out), (by (with_reducible repeat (first | refine blk_drewN ?_ _ | refine blk_drew ?_ | refine blk_alloc ?_ _)); exact BK170.out), (by (with_reducible repeat (first | refine blk_drewN ?_ _ | refine blk_drew ?_ | refine blk_alloc ?_ _)); exact BK175.out), (by (with_reducible repeat (first | refine blk_drewN ?_ _ | refine blk_drew ?_ | refine blk_alloc ?_ _)); exact BK206.out), (by (with_reducible repeat (first | refine blk_drewN ?_ _ | refine blk_drew ?_ | refine blk_alloc ?_ _)); exact BK207.out), GW206.out, GE206.out, NB170_206.out, NB206_170.out, NB175_206.out, NB206_175.out, NB207_206.out, NB206_207.out, GW207.out, GE207.out, NB170_207.out, NB207_170.out, NB175_207.out, NB207_175.out, (by repeat (first | (with_reducible first | exact HB.out | apply below_alloc | apply pw_below_drewN | apply below_drew1 | refine below_set ?_ GE170.out | refine below_set ?_ GE175.out | refine below_set ?_ GE206.out | refine below_set ?_ GE207.out) | exact HB.out))⟩)
                                      · skip
                                        rintro ⟨v199, gb207⟩ w308 ⟨hS_, h0_, h1_, h2_, h3_, h4_, h5_, h6_, h7_, h8_, h9_, h10_, h11_⟩
                                        have n0_ : Aside0 (Kd.R k38 38 w308 w.heap.size (fun k_ => k_ ≠ gb175) (.slice (some ad174) t171.length co299) t171) := ⟨h0_⟩
                                        have n1_ : Aside0 (MR 5 w308 w.heap.size (fun _ => True) v199 y198) := ⟨h1_⟩
                                        have n2_ : Aside0 (w308.heap[gb170]? = some (.cells #[.int .i64 a2_0, .int .i64 a2_1] 27 (0, 0))) := ⟨h2_⟩
                                        have n3_ : Aside0 (w308.heap[gb175]? = some (.cells #[.string ((rd_T38 t171 (ji6)).f0), .int .i64 ((rd_T38 t171 (ji6)).f1), .int .i64 ((rd_T38 t171 (ji6)).f2)] 38 (0, 0))) := ⟨h3_⟩
                                        have n4_ : Aside0 (w308.heap[gb207]? = some (.cells #[.int .i64 0, .int .i64 0] 30 (0, 0))) := ⟨h4_⟩
                                        have n5_ : Aside0 (w.heap.size ≤ gb207) := ⟨h5_⟩
                                        have n6_ : Aside0 (w.heap.size ≤ gb207) := ⟨h6_⟩
                                        have n7_ : Aside0 (gb170 ≠ gb207) := ⟨h7_⟩
                                        have n8_ : Aside0 (gb207 ≠ gb170) := ⟨h8_⟩
                                        have n9_ : Aside0 (gb175 ≠ gb207) := ⟨h9_⟩
                                        have n10_ : Aside0 (gb207 ≠ gb175) := ⟨h10_⟩
                                        have n11_ : Aside0 (Below w.heap.size w w308) := ⟨h11_⟩
                                        clear HO173
                                        clear BK170
                                        clear BK175
                                        clear HB
                                        clear h0_ h1_ h2_ h3_ h4_ h5_ h6_ h7_ h8_ h9_ h10_ h11_
                                        have HO173 := n0_
                                        have HO200 := n1_
                                        have BK170 := n2_
                                        have BK175 := n3_
                                        have BK207 := n4_
                                        have GW207 := n5_
                                        have GE207 := n6_
                                        have NB170_207 := n7_
                                        have NB207_170 := n8_
                                        have NB175_207 := n9_
                                        have NB207_175 := n10_
                                        have HB := n11_
                                        clear n0_ n1_ n2_ n3_ n4_ n5_ n6_ n7_ n8_ n9_ n10_ n11_
                                        have hHeld : w308.cell? ⟨gb175, 0, none⟩ = some (.string ((rd_T38 t171 (ji6)).f0)) ∧ w308.cell? ⟨gb175, 1, none⟩ = some (.int .i64 ((rd_T38 t171 (ji6)).f1)) ∧ w308.cell? ⟨gb175, 2, none⟩ = some (.int .i64 ((rd_T38 t171 (ji6)).f2)) ∧ w308.cell? ⟨gb170, 0, none⟩ = some (.int .i64 a2_0) ∧ w308.cell? ⟨gb170, 1, none⟩ = some (.int .i64 a2_1) := hS_
                                        obtain ⟨Ao309, co309, eo309⟩ := MR.R_slice HO200.out
                                        (first | subst eo309 | (injection eo309 with f1_ f2_ f3_; have f4_ := f1_.symm; have f5_ := f3_.symm; clear f1_ f2_ f3_; subst f4_; subst f5_))
                                        refine norm_ (a' := ?_) ?_ ?_
                                        rotate_left
                                        · simp only [putAll, Act.put, List.setIfInBounds_toArray, List.set_cons_zero, List.set_cons_succ]
                                          rfl
                                        refine two_ (i := 7) (j := 12) (Ni := some 42) (Nj := some 10) #[true, true, true, true, true, true, true, true, false, false, false, false, false, true, false, false, false] #[true, true, true, true, true, true, true, false, false, false, false, false, true, true, false, false, false] rfl rfl rfl rfl (two_of HT_.out (by kernel_rfl)) (by decide) (by decide) (fun K hK => ?_) (fun K hK => ?_)
                                        · skip
                                          refine goes_ Try.func23 (by kernel_rfl) rfl #[.slice Ao309 y198.length co309, .int .i64 1, .agg #[.int .i64 a2_0, .int .i64 a2_1]] (by rfl) rfl rfl (by (try simp only [List.map_toArray, List.map_cons, List.map_nil]); first | done | rfl | (simp only [List.length_drop, List.length_take]; rfl)) ?_
                                          with_reducible refine (escape_Next.calls k _ _ y198 1 a2_0 a2_1 t201 t202 t203 t204 t205 _ ?side1 ?side2 A290.out).mono ?_
                                          (case side1 => repeat (first | exact (MR.R_reads' HO200.out).2.2 | (with_reducible refine Kd.C_alloc ?_ _) | (with_reducible refine Kd.C_drewN ?_ _) | (with_reducible refine Kd.C_drew ?_)))
                                          (case side2 => exact (MR.R_reads' HO200.out).2.1)
                                          rintro e w310 ⟨rfl, hb⟩
                                          refine ⟨_, rfl, ?_⟩
                                          have n0_ := Aside0.mk (Kd.R_below (by (with_reducible repeat (first | apply Kd.R_alloc | apply Kd.R_drewN | apply Kd.R_drew)); exact HO173.out) hb)
                                          have n1_ := Aside0.mk (MR.R_below (by (with_reducible repeat (first | apply MR.R_alloc | apply MR.R_drewN | apply MR.R_drew)); exact HO200.out) hb)
                                          have n2_ := Aside0.mk (blk_below (g := gb170) (o := .cells #[.int .i64 a2_0, .int .i64 a2_1] 27 (0, 0)) (by (with_reducible repeat (first | refine blk_drewN ?_ _ | refine blk_drew ?_ | refine blk_alloc ?_ _)); exact BK170.out) hb)
                                          have n3_ := Aside0.mk (blk_below (g := gb175) (o := .cells #[.string ((rd_T38 t171 (ji6)).f0), .int .i64 ((rd_T38 t171 (ji6)).f1), .int .i64 ((rd_T38 t171 (ji6)).f2)] 38 (0, 0)) (by (with_reducible repeat (first | refine blk_drewN ?_ _ | refine blk_drew ?_ | refine blk_alloc ?_ _)); exact BK175.out) hb)
                                          have n4_ := Aside0.mk (blk_below (g := gb207) (o := .cells #[.int .i64 0, .int .i64 0] 30 (0, 0)) (by (with_reducible repeat (first | refine blk_drewN ?_ _ | refine blk_drew ?_ | refine blk_alloc ?_ _)); exact BK207.out) hb)
                                          have n5_ := Aside0.mk (below_step (by repeat (first | (with_reducible first | exact HB.out | apply below_alloc | apply pw_below_drewN | apply below_drew1 | refine below_set ?_ GE170.out | refine below_set ?_ GE175.out | refine below_set ?_ GE207.out) | exact HB.out)) hb)
                                          clear HO173
                                          clear HO200
                                          clear BK170
                                          clear BK175
                                          clear BK207
                                          clear HB
                                          have HO173 := n0_
                                          have HO200 := n1_
                                          have BK170 := n2_
                                          have BK175 := n3_
                                          have BK207 := n4_
                                          have HB := n5_
                                          clear n0_ n1_ n2_ n3_ n4_ n5_
                                          (try clear hb)
                                          (try clear hb2)
                                          (try clear hk)
                                          (try clear hi)
                                          refine hK.out _ _ ⟨(blk_cell BK175.out 0).trans rfl, (blk_cell BK175.out 1).trans rfl, (blk_cell BK175.out 2).trans rfl, (blk_cell BK170.out 0).trans rfl, (blk_cell BK170.out 1).trans rfl⟩ (fun hHeld => ?_)
                                          clear hK K
                                          refine norm_ (a' := ?_) ?_ ?_
                                          rotate_left
                                          · show Act.put _ (some 42) _ = _
                                            simp only [Act.put, List.setIfInBounds_toArray, List.set_cons_zero, List.set_cons_succ, i64_w, i32_w]
                                            rfl
                                          refine pure_ (i := 8) (N := some 34) (v := ?_) (a' := ?_) #[true, true, true, true, true, true, true, true, true, false, false, false, false, true, false, false, false] rfl rfl (any_of HT_.out (by kernel_rfl)) (fun _ _ _ h => h) (Or.inl ⟨by rfl, ?_⟩) ?_ ?_
                                          rotate_left
                                          · intro w'
                                            go_simp
                                            with_reducible rfl
                                          rotate_left
                                          · simp only [Act.put, List.setIfInBounds_toArray, List.set_cons_zero, List.set_cons_succ, i64_w, i32_w]
                                            rfl
                                          refine pure_ (i := 9) (N := some 43) (v := ?_) (a' := ?_) #[true, true, true, true, true, true, true, true, true, true, false, false, false, true, false, false, false] rfl rfl (any_of HT_.out (by kernel_rfl)) (fun _ _ _ h => h) (Or.inl ⟨by rfl, ?_⟩) ?_ ?_
                                          rotate_left
                                          · intro w'
                                            go_simp
                                            with_reducible rfl
                                          rotate_left
                                          · simp only [Act.put, List.setIfInBounds_toArray, List.set_cons_zero, List.set_cons_succ, i64_w, i32_w]
                                            rfl
                                          refine pure_ (i := 10) (N := some 44) (v := ?_) (a' := ?_) #[true, true, true, true, true, true, true, true, true, true, true, false, false, true, false, false, false] rfl rfl (any_of HT_.out (by kernel_rfl)) (fun _ _ _ h => h) (Or.inl ⟨by rfl, ?_⟩) ?_ ?_
                                          rotate_left
                                          · intro w'
                                            go_simp
                                            with_reducible rfl
                                          rotate_left
                                          · simp only [Act.put, List.setIfInBounds_toArray, List.set_cons_zero, List.set_cons_succ, i64_w, i32_w]
                                            rfl
                                          refine pure_ (i := 11) (N := some 45) (v := ?_) (a' := ?_) #[true, true, true, true, true, true, true, true, true, true, true, true, false, true, false, false, false] rfl rfl (any_of HT_.out (by kernel_rfl)) (fun _ _ _ h => h) (Or.inl ⟨by rfl, ?_⟩) ?_ ?_
                                          rotate_left
                                          · intro w'
                                            go_simp
                                            with_reducible rfl
                                          rotate_left
                                          · simp only [Act.put, List.setIfInBounds_toArray, List.set_cons_zero, List.set_cons_succ, i64_w, i32_w]
                                            rfl
                                          exact norm_ (by first | (simp only [putAll, Act.put, List.setIfInBounds_toArray, List.set_cons_zero, List.set_cons_succ]; done) | (simp only [putAll, Act.put, List.setIfInBounds_toArray, List.set_cons_zero, List.set_cons_succ]; rfl)) (hJ5_7_13 (.slice Ao309 y198.length co309, gb207) _ ⟨hHeld, (by (with_reducible repeat (first | apply Kd.R_alloc | apply Kd.R_drewN | apply Kd.R_drew)); exact HO173.out), (by (with_reducible repeat (first | apply MR.R_alloc | apply MR.R_drewN | apply MR.R_drew)); exact HO200.out), (by (with_reducible repeat (first | refine blk_drewN ?_ _ | refine blk_drew ?_ | refine blk_alloc ?_ _)); exact BK170.out), (by (with_reducible repeat (first | refine blk_drewN ?_ _ | refine blk_drew ?_ | refine blk_alloc ?_ _)); exact BK175.out), (by (with_reducible repeat (first | refine blk_drewN ?_ _ | refine blk_drew ?_ | refine blk_alloc ?_ _)); exact BK207.out), GW207.out, GE207.out, NB170_207.out, NB207_170.out, NB175_207.out, NB207_175.out, (by repeat (first | (with_reducible first | exact HB.out | apply below_alloc | apply pw_below_drewN | apply below_drew1 | refine below_set ?_ GE170.out | refine below_set ?_ GE175.out | refine below_set ?_ GE207.out) | exact HB.out))⟩)
                                        · skip
                                          refine box_step ?hg (N := 10) ?hd (cs := #[.int .i64 0, .int .i64 0]) (t := 27) ?hr ?_; (case hd => rfl); (case hg => rfl); (case hr => first | (go_simp; done) | (go_simp; rfl))
                                          intro gb206 hg w309 hbox hb
                                          have n0_ := Aside0.mk (Kd.R_below (by (with_reducible repeat (first | apply Kd.R_alloc | apply Kd.R_drewN | apply Kd.R_drew)); exact HO173.out) hb)
                                          have n1_ := Aside0.mk (MR.R_below (by (with_reducible repeat (first | apply MR.R_alloc | apply MR.R_drewN | apply MR.R_drew)); exact HO200.out) hb)
                                          have n2_ := Aside0.mk (blk_below (g := gb170) (o := .cells #[.int .i64 a2_0, .int .i64 a2_1] 27 (0, 0)) (by (with_reducible repeat (first | refine blk_drewN ?_ _ | refine blk_drew ?_ | refine blk_alloc ?_ _)); exact BK170.out) hb)
                                          have n3_ := Aside0.mk (blk_below (g := gb175) (o := .cells #[.string ((rd_T38 t171 (ji6)).f0), .int .i64 ((rd_T38 t171 (ji6)).f1), .int .i64 ((rd_T38 t171 (ji6)).f2)] 38 (0, 0)) (by (with_reducible repeat (first | refine blk_drewN ?_ _ | refine blk_drew ?_ | refine blk_alloc ?_ _)); exact BK175.out) hb)
                                          have n4_ := Aside0.mk (blk_below (g := gb207) (o := .cells #[.int .i64 0, .int .i64 0] 30 (0, 0)) (by (with_reducible repeat (first | refine blk_drewN ?_ _ | refine blk_drew ?_ | refine blk_alloc ?_ _)); exact BK207.out) hb)
                                          have n5_ := Aside0.mk (below_step (by repeat (first | (with_reducible first | exact HB.out | apply below_alloc | apply pw_below_drewN | apply below_drew1 | refine below_set ?_ GE170.out | refine below_set ?_ GE175.out | refine below_set ?_ GE207.out) | exact HB.out)) hb)
                                          have n6_ := Aside0.mk (hbox)
                                          have n7_ := Aside0.mk ((by rw [hg]; exact (below_size (by repeat (first | (with_reducible first | exact HB.out | apply below_alloc | apply pw_below_drewN | apply below_drew1 | refine below_set ?_ GE170.out | refine below_set ?_ GE175.out | refine below_set ?_ GE207.out) | exact HB.out))) : w.heap.size ≤ gb206))
                                          have n8_ := Aside0.mk ((by rw [hg]; exact (below_size (by repeat (first | (with_reducible first | exact HB.out | apply below_alloc | apply pw_below_drewN | apply below_drew1 | refine below_set ?_ GE170.out | refine below_set ?_ GE175.out | refine below_set ?_ GE207.out) | exact HB.out))) : w.heap.size ≤ gb206))
                                          have n9_ := Aside0.mk ((by rw [hg]; exact Nat.ne_of_lt (blk_lt (g := gb170) (o := .cells #[.int .i64 a2_0, .int .i64 a2_1] 27 (0, 0)) (by (with_reducible repeat (first | refine blk_drewN ?_ _ | refine blk_drew ?_ | refine blk_alloc ?_ _)); exact BK170.out)) : gb170 ≠ gb206))
                                          have n10_ := Aside0.mk ((by rw [hg]; exact Nat.ne_of_gt (blk_lt (g := gb170) (o := .cells #[.int .i64 a2_0, .int .i64 a2_1] 27 (0, 0)) (by (with_reducible repeat (first | refine blk_drewN ?_ _ | refine blk_drew ?_ | refine blk_alloc ?_ _)); exact BK170.out)) : gb206 ≠ gb170))
                                          have n11_ := Aside0.mk ((by rw [hg]; exact Nat.ne_of_lt (blk_lt (g := gb175) (o := .cells #[.string ((rd_T38 t171 (ji6)).f0), .int .i64 ((rd_T38 t171 (ji6)).f1), .int .i64 ((rd_T38 t171 (ji6)).f2)] 38 (0, 0)) (by (with_reducible repeat (first | refine blk_drewN ?_ _ | refine blk_drew ?_ | refine blk_alloc ?_ _)); exact BK175.out)) : gb175 ≠ gb206))
                                          have n12_ := Aside0.mk ((by rw [hg]; exact Nat.ne_of_gt (blk_lt (g := gb175) (o := .cells #[.string ((rd_T38 t171 (ji6)).f0), .int .i64 ((rd_T38 t171 (ji6)).f1), .int .i64 ((rd_T38 t171 (ji6)).f2)] 38 (0, 0)) (by (with_reducible repeat (first | refine blk_drewN ?_ _ | refine blk_drew ?_ | refine blk_alloc ?_ _)); exact BK175.out)) : gb206 ≠ gb175))
                                          have n13_ := Aside0.mk ((by rw [hg]; exact Nat.ne_of_lt (blk_lt (g := gb207) (o := .cells #[.int .i64 0, .int .i64 0] 30 (0, 0)) (by (with_reducible repeat (first | refine blk_drewN ?_ _ | refine blk_drew ?_ | refine blk_alloc ?_ _)); exact BK207.out)) : gb207 ≠ gb206))
                                          have n14_ := Aside0.mk ((by rw [hg]; exact Nat.ne_of_gt (blk_lt (g := gb207) (o := .cells #[.int .i64 0, .int .i64 0] 30 (0, 0)) (by (with_reducible repeat (first | refine blk_drewN ?_ _ | refine blk_drew ?_ | refine blk_alloc ?_ _)); exact BK207.out)) : gb206 ≠ gb207))
                                          clear HO173
                                          clear HO200
                                          clear BK170
                                          clear BK175
                                          clear BK207
                                          clear HB
                                          have HO173 := n0_
                                          have HO200 := n1_
                                          have BK170 := n2_
                                          have BK175 := n3_
                                          have BK207 := n4_
                                          have HB := n5_
                                          have BK206 := n6_
                                          have GW206 := n7_
                                          have GE206 := n8_
                                          have NB170_206 := n9_
                                          have NB206_170 := n10_
                                          have NB175_206 := n11_
                                          have NB206_175 := n12_
                                          have NB207_206 := n13_
                                          have NB206_207 := n14_
                                          clear n0_ n1_ n2_ n3_ n4_ n5_ n6_ n7_ n8_ n9_ n10_ n11_ n12_ n13_ n14_
                                          clear hb hbox hg
                                          refine hK.out _ _ ⟨(blk_cell BK175.out 0).trans rfl, (blk_cell BK175.out 1).trans rfl, (blk_cell BK175.out 2).trans rfl, (blk_cell BK170.out 0).trans rfl, (blk_cell BK170.out 1).trans rfl⟩ (fun hHeld => ?_)
                                          clear hK K
                                          refine norm_ (a' := ?_) ?_ ?_
                                          rotate_left
                                          · show Act.put _ (some 10) _ = _
                                            simp only [Act.put, List.setIfInBounds_toArray, List.set_cons_zero, List.set_cons_succ, i64_w, i32_w]
                                            rfl
                                          exact norm_ (by first | (simp only [putAll, Act.put, List.setIfInBounds_toArray, List.set_cons_zero, List.set_cons_succ]; done) | (simp only [putAll, Act.put, List.setIfInBounds_toArray, List.set_cons_zero, List.set_cons_succ]; rfl)) (hJ5_12_13 ((.slice Ao309 y198.length co309), gb206, gb207) _ ⟨hHeld, (by (with_reducible repeat (first | apply Kd.R_alloc | apply Kd.R_drewN | apply Kd.R_drew)); exact HO173.out), (by (with_reducible repeat (first | apply MR.R_alloc | apply MR.R_drewN | apply MR.R_drew)); exact HO200.out), (by (with_reducible repeat (first | refine blk_drewN ?_ _ | refine blk_drew ?_ | refine blk_alloc ?_ _)); exact BK170.out), (by (with_reducible repeat (first | refine blk_drewN ?_ _ | refine blk_drew ?_ | refine blk_alloc ?_ _)); exact BK175.out), (by (with_reducible repeat (first | refine blk_drewN ?_ _ | refine blk_drew ?_ | refine blk_alloc ?_ _)); exact BK206.out), (by (with_reducible repeat (first | refine blk_drewN ?_ _ | refine blk_drew ?_ | refine blk_alloc ?_ _)); exact BK207.out), GW206.out, GE206.out, NB170_206.out, NB206_170.out, NB175_206.out, NB206_175.out, NB207_206.out, NB206_207.out, GW207.out, GE207.out, NB170_207.out, NB207_170.out, NB175_207.out, NB207_175.out, (by repeat (first | (with_reducible first | exact HB.out | apply below_alloc | apply pw_below_drewN | apply below_drew1 | refine below_set ?_ GE170.out | refine below_set ?_ GE175.out | refine below_set ?_ GE207.out | refine below_set ?_ GE206.out) | exact HB.out))⟩)
                                    · skip
                                      rintro ⟨v199, gb206⟩ w308 ⟨hS_, h0_, h1_, h2_, h3_, h4_, h5_, h6_, h7_, h8_, h9_, h10_, h11_⟩
                                      have n0_ : Aside0 (Kd.R k38 38 w308 w.heap.size (fun k_ => k_ ≠ gb175) (.slice (some ad174) t171.length co299) t171) := ⟨h0_⟩
                                      have n1_ : Aside0 (MR 5 w308 w.heap.size (fun _ => True) v199 y198) := ⟨h1_⟩
                                      have n2_ : Aside0 (w308.heap[gb170]? = some (.cells #[.int .i64 a2_0, .int .i64 a2_1] 27 (0, 0))) := ⟨h2_⟩
                                      have n3_ : Aside0 (w308.heap[gb175]? = some (.cells #[.string ((rd_T38 t171 (ji6)).f0), .int .i64 ((rd_T38 t171 (ji6)).f1), .int .i64 ((rd_T38 t171 (ji6)).f2)] 38 (0, 0))) := ⟨h3_⟩
                                      have n4_ : Aside0 (w308.heap[gb206]? = some (.cells #[.int .i64 0, .int .i64 0] 27 (0, 0))) := ⟨h4_⟩
                                      have n5_ : Aside0 (w.heap.size ≤ gb206) := ⟨h5_⟩
                                      have n6_ : Aside0 (w.heap.size ≤ gb206) := ⟨h6_⟩
                                      have n7_ : Aside0 (gb170 ≠ gb206) := ⟨h7_⟩
                                      have n8_ : Aside0 (gb206 ≠ gb170) := ⟨h8_⟩
                                      have n9_ : Aside0 (gb175 ≠ gb206) := ⟨h9_⟩
                                      have n10_ : Aside0 (gb206 ≠ gb175) := ⟨h10_⟩
                                      have n11_ : Aside0 (Below w.heap.size w w308) := ⟨h11_⟩
                                      clear HO173
                                      clear BK170
                                      clear BK175
                                      clear HB
                                      clear h0_ h1_ h2_ h3_ h4_ h5_ h6_ h7_ h8_ h9_ h10_ h11_
                                      have HO173 := n0_
                                      have HO200 := n1_
                                      have BK170 := n2_
                                      have BK175 := n3_
                                      have BK206 := n4_
                                      have GW206 := n5_
                                      have GE206 := n6_
                                      have NB170_206 := n7_
                                      have NB206_170 := n8_
                                      have NB175_206 := n9_
                                      have NB206_175 := n10_
                                      have HB := n11_
                                      clear n0_ n1_ n2_ n3_ n4_ n5_ n6_ n7_ n8_ n9_ n10_ n11_
                                      have hHeld : w308.cell? ⟨gb175, 0, none⟩ = some (.string ((rd_T38 t171 (ji6)).f0)) ∧ w308.cell? ⟨gb175, 1, none⟩ = some (.int .i64 ((rd_T38 t171 (ji6)).f1)) ∧ w308.cell? ⟨gb175, 2, none⟩ = some (.int .i64 ((rd_T38 t171 (ji6)).f2)) ∧ w308.cell? ⟨gb170, 0, none⟩ = some (.int .i64 a2_0) ∧ w308.cell? ⟨gb170, 1, none⟩ = some (.int .i64 a2_1) := hS_
                                      obtain ⟨Ao309, co309, eo309⟩ := MR.R_slice HO200.out
                                      (first | subst eo309 | (injection eo309 with f1_ f2_ f3_; have f4_ := f1_.symm; have f5_ := f3_.symm; clear f1_ f2_ f3_; subst f4_; subst f5_))
                                      refine norm_ (a' := ?_) ?_ ?_
                                      rotate_left
                                      · simp only [putAll, Act.put, List.setIfInBounds_toArray, List.set_cons_zero, List.set_cons_succ]
                                        rfl
                                      refine two_ (i := 7) (j := 13) (Ni := some 42) (Nj := some 12) #[true, true, true, true, true, true, true, true, false, false, false, false, true, false, false, false, false] #[true, true, true, true, true, true, true, false, false, false, false, false, true, true, false, false, false] rfl rfl rfl rfl (two_of HT_.out (by kernel_rfl)) (by decide) (by decide) (fun K hK => ?_) (fun K hK => ?_)
                                      · skip
                                        refine goes_ Try.func23 (by kernel_rfl) rfl #[.slice Ao309 y198.length co309, .int .i64 1, .agg #[.int .i64 a2_0, .int .i64 a2_1]] (by rfl) rfl rfl (by (try simp only [List.map_toArray, List.map_cons, List.map_nil]); first | done | rfl | (simp only [List.length_drop, List.length_take]; rfl)) ?_
                                        with_reducible refine (escape_Next.calls k _ _ y198 1 a2_0 a2_1 t201 t202 t203 t204 t205 _ ?side1 ?side2 A290.out).mono ?_
                                        (case side1 => repeat (first | exact (MR.R_reads' HO200.out).2.2 | (with_reducible refine Kd.C_alloc ?_ _) | (with_reducible refine Kd.C_drewN ?_ _) | (with_reducible refine Kd.C_drew ?_)))
                                        (case side2 => exact (MR.R_reads' HO200.out).2.1)
                                        rintro e w310 ⟨rfl, hb⟩
                                        refine ⟨_, rfl, ?_⟩
                                        have n0_ := Aside0.mk (Kd.R_below (by (with_reducible repeat (first | apply Kd.R_alloc | apply Kd.R_drewN | apply Kd.R_drew)); exact HO173.out) hb)
                                        have n1_ := Aside0.mk (MR.R_below (by (with_reducible repeat (first | apply MR.R_alloc | apply MR.R_drewN | apply MR.R_drew)); exact HO200.out) hb)
                                        have n2_ := Aside0.mk (blk_below (g := gb170) (o := .cells #[.int .i64 a2_0, .int .i64 a2_1] 27 (0, 0)) (by (with_reducible repeat (first | refine blk_drewN ?_ _ | refine blk_drew ?_ | refine blk_alloc ?_ _)); exact BK170.out) hb)
                                        have n3_ := Aside0.mk (blk_below (g := gb175) (o := .cells #[.string ((rd_T38 t171 (ji6)).f0), .int .i64 ((rd_T38 t171 (ji6)).f1), .int .i64 ((rd_T38 t171 (ji6)).f2)] 38 (0, 0)) (by (with_reducible repeat (first | refine blk_drewN ?_ _ | refine blk_drew ?_ | refine blk_alloc ?_ _)); exact BK175.out) hb)
                                        have n4_ := Aside0.mk (blk_below (g := gb206) (o := .cells #[.int .i64 0, .int .i64 0] 27 (0, 0)) (by (with_reducible repeat (first | refine blk_drewN ?_ _ | refine blk_drew ?_ | refine blk_alloc ?_ _)); exact BK206.out) hb)
                                        have n5_ := Aside0.mk (below_step (by repeat (first | (with_reducible first | exact HB.out | apply below_alloc | apply pw_below_drewN | apply below_drew1 | refine below_set ?_ GE170.out | refine below_set ?_ GE175.out | refine below_set ?_ GE206.out) | exact HB.out)) hb)
                                        clear HO173
                                        clear HO200
                                        clear BK170
                                        clear BK175
                                        clear BK206
                                        clear HB
                                        have HO173 := n0_
                                        have HO200 := n1_
                                        have BK170 := n2_
                                        have BK175 := n3_
                                        have BK206 := n4_
                                        have HB := n5_
                                        clear n0_ n1_ n2_ n3_ n4_ n5_
                                        (try clear hb)
                                        (try clear hb2)
                                        (try clear hk)
                                        (try clear hi)
                                        refine hK.out _ _ ⟨(blk_cell BK175.out 0).trans rfl, (blk_cell BK175.out 1).trans rfl, (blk_cell BK175.out 2).trans rfl, (blk_cell BK170.out 0).trans rfl, (blk_cell BK170.out 1).trans rfl⟩ (fun hHeld => ?_)
                                        clear hK K
                                        refine norm_ (a' := ?_) ?_ ?_
                                        rotate_left
                                        · show Act.put _ (some 42) _ = _
                                          simp only [Act.put, List.setIfInBounds_toArray, List.set_cons_zero, List.set_cons_succ, i64_w, i32_w]
                                          rfl
                                        refine pure_ (i := 8) (N := some 34) (v := ?_) (a' := ?_) #[true, true, true, true, true, true, true, true, true, false, false, false, true, false, false, false, false] rfl rfl (any_of HT_.out (by kernel_rfl)) (fun _ _ _ h => h) (Or.inl ⟨by rfl, ?_⟩) ?_ ?_
                                        rotate_left
                                        · intro w'
                                          go_simp
                                          with_reducible rfl
                                        rotate_left
                                        · simp only [Act.put, List.setIfInBounds_toArray, List.set_cons_zero, List.set_cons_succ, i64_w, i32_w]
                                          rfl
                                        refine pure_ (i := 9) (N := some 43) (v := ?_) (a' := ?_) #[true, true, true, true, true, true, true, true, true, true, false, false, true, false, false, false, false] rfl rfl (any_of HT_.out (by kernel_rfl)) (fun _ _ _ h => h) (Or.inl ⟨by rfl, ?_⟩) ?_ ?_
                                        rotate_left
                                        · intro w'
                                          go_simp
                                          with_reducible rfl
                                        rotate_left
                                        · simp only [Act.put, List.setIfInBounds_toArray, List.set_cons_zero, List.set_cons_succ, i64_w, i32_w]
                                          rfl
                                        refine pure_ (i := 10) (N := some 44) (v := ?_) (a' := ?_) #[true, true, true, true, true, true, true, true, true, true, true, false, true, false, false, false, false] rfl rfl (any_of HT_.out (by kernel_rfl)) (fun _ _ _ h => h) (Or.inl ⟨by rfl, ?_⟩) ?_ ?_
                                        rotate_left
                                        · intro w'
                                          go_simp
                                          with_reducible rfl
                                        rotate_left
                                        · simp only [Act.put, List.setIfInBounds_toArray, List.set_cons_zero, List.set_cons_succ, i64_w, i32_w]
                                          rfl
                                        refine pure_ (i := 11) (N := some 45) (v := ?_) (a' := ?_) #[true, true, true, true, true, true, true, true, true, true, true, true, true, false, false, false, false] rfl rfl (any_of HT_.out (by kernel_rfl)) (fun _ _ _ h => h) (Or.inl ⟨by rfl, ?_⟩) ?_ ?_
                                        rotate_left
                                        · intro w'
                                          go_simp
                                          with_reducible rfl
                                        rotate_left
                                        · simp only [Act.put, List.setIfInBounds_toArray, List.set_cons_zero, List.set_cons_succ, i64_w, i32_w]
                                          rfl
                                        exact norm_ (by first | (simp only [putAll, Act.put, List.setIfInBounds_toArray, List.set_cons_zero, List.set_cons_succ]; done) | (simp only [putAll, Act.put, List.setIfInBounds_toArray, List.set_cons_zero, List.set_cons_succ]; rfl)) (hJ5_7_12 (.slice Ao309 y198.length co309, gb206) _ ⟨hHeld, (by (with_reducible repeat (first | apply Kd.R_alloc | apply Kd.R_drewN | apply Kd.R_drew)); exact HO173.out), (by (with_reducible repeat (first | apply MR.R_alloc | apply MR.R_drewN | apply MR.R_drew)); exact HO200.out), (by (with_reducible repeat (first | refine blk_drewN ?_ _ | refine blk_drew ?_ | refine blk_alloc ?_ _)); exact BK170.out), (by (with_reducible repeat (first | refine blk_drewN ?_ _ | refine blk_drew ?_ | refine blk_alloc ?_ _)); exact BK175.out), (by (with_reducible repeat (first | refine blk_drewN ?_ _ | refine blk_drew ?_ | refine blk_alloc ?_ _)); exact BK206.out), GW206.out, GE206.out, NB170_206.out, NB206_170.out, NB175_206.out, NB206_175.out, (by repeat (first | (with_reducible first | exact HB.out | apply below_alloc | apply pw_below_drewN | apply below_drew1 | refine below_set ?_ GE170.out | refine below_set ?_ GE175.out | refine below_set ?_ GE206.out) | exact HB.out))⟩)
                                      · skip
                                        refine box_step ?hg (N := 12) ?hd (cs := #[.int .i64 0, .int .i64 0]) (t := 30) ?hr ?_; (case hd => rfl); (case hg => rfl); (case hr => first | (go_simp; done) | (go_simp; rfl))
                                        intro gb207 hg w309 hbox hb
                                        have n0_ := Aside0.mk (Kd.R_below (by (with_reducible repeat (first | apply Kd.R_alloc | apply Kd.R_drewN | apply Kd.R_drew)); exact HO173.out) hb)
                                        have n1_ := Aside0.mk (MR.R_below (by (with_reducible repeat (first | apply MR.R_alloc | apply MR.R_drewN | apply MR.R_drew)); exact HO200.out) hb)
                                        have n2_ := Aside0.mk (blk_below (g := gb170) (o := .cells #[.int .i64 a2_0, .int .i64 a2_1] 27 (0, 0)) (by (with_reducible repeat (first | refine blk_drewN ?_ _ | refine blk_drew ?_ | refine blk_alloc ?_ _)); exact BK170.out) hb)
                                        have n3_ := Aside0.mk (blk_below (g := gb175) (o := .cells #[.string ((rd_T38 t171 (ji6)).f0), .int .i64 ((rd_T38 t171 (ji6)).f1), .int .i64 ((rd_T38 t171 (ji6)).f2)] 38 (0, 0)) (by (with_reducible repeat (first | refine blk_drewN ?_ _ | refine blk_drew ?_ | refine blk_alloc ?_ _)); exact BK175.out) hb)
                                        have n4_ := Aside0.mk (blk_below (g := gb206) (o := .cells #[.int .i64 0, .int .i64 0] 27 (0, 0)) (by (with_reducible repeat (first | refine blk_drewN ?_ _ | refine blk_drew ?_ | refine blk_alloc ?_ _)); exact BK206.out) hb)
                                        have n5_ := Aside0.mk (below_step (by repeat (first | (with_reducible first | exact HB.out | apply below_alloc | apply pw_below_drewN | apply below_drew1 | refine below_set ?_ GE170.out | refine below_set ?_ GE175.out | refine below_set ?_ GE206.out) | exact HB.out)) hb)
                                        have n6_ := Aside0.mk (hbox)
                                        have n7_ := Aside0.mk ((by rw [hg]; exact (below_size (by repeat (first | (with_reducible first | exact HB.out | apply below_alloc | apply pw_below_drewN | apply below_drew1 | refine below_set ?_ GE170.out | refine below_set ?_ GE175.out | refine below_set ?_ GE206.out) | exact HB.out))) : w.heap.size ≤ gb207))
                                        have n8_ := Aside0.mk ((by rw [hg]; exact (below_size (by repeat (first | (with_reducible first | exact HB.out | apply below_alloc | apply pw_below_drewN | apply below_drew1 | refine below_set ?_ GE170.out | refine below_set ?_ GE175.out | refine below_set ?_ GE206.out) | exact HB.out))) : w.heap.size ≤ gb207))
                                        have n9_ := Aside0.mk ((by rw [hg]; exact Nat.ne_of_lt (blk_lt (g := gb170) (o := .cells #[.int .i64 a2_0, .int .i64 a2_1] 27 (0, 0)) (by (with_reducible repeat (first | refine blk_drewN ?_ _ | refine blk_drew ?_ | refine blk_alloc ?_ _)); exact BK170.out)) : gb170 ≠ gb207))
                                        have n10_ := Aside0.mk ((by rw [hg]; exact Nat.ne_of_gt (blk_lt (g := gb170) (o := .cells #[.int .i64 a2_0, .int .i64 a2_1] 27 (0, 0)) (by (with_reducible repeat (first | refine blk_drewN ?_ _ | refine blk_drew ?_ | refine blk_alloc ?_ _)); exact BK170.out)) : gb207 ≠ gb170))
                                        have n11_ := Aside0.mk ((by rw [hg]; exact Nat.ne_of_lt (blk_lt (g := gb175) (o := .cells #[.string ((rd_T38 t171 (ji6)).f0), .int .i64 ((rd_T38 t171 (ji6)).f1), .int .i64 ((rd_T38 t171 (ji6)).f2)] 38 (0, 0)) (by (with_reducible repeat (first | refine blk_drewN ?_ _ | refine blk_drew ?_ | refine blk_alloc ?_ _)); exact BK175.out)) : gb175 ≠ gb207))
                                        have n12_ := Aside0.mk ((by rw [hg]; exact Nat.ne_of_gt (blk_lt (g := gb175) (o := .cells #[.string ((rd_T38 t171 (ji6)).f0), .int .i64 ((rd_T38 t171 (ji6)).f1), .int .i64 ((rd_T38 t171 (ji6)).f2)] 38 (0, 0)) (by (with_reducible repeat (first | refine blk_drewN ?_ _ | refine blk_drew ?_ | refine blk_alloc ?_ _)); exact BK175.out)) : gb207 ≠ gb175))
                                        have n13_ := Aside0.mk ((by rw [hg]; exact Nat.ne_of_lt (blk_lt (g := gb206) (o := .cells #[.int .i64 0, .int .i64 0] 27 (0, 0)) (by (with_reducible repeat (first | refine blk_drewN ?_ _ | refine blk_drew ?_ | refine blk_alloc ?_ _)); exact BK206.out)) : gb206 ≠ gb207))
                                        have n14_ := Aside0.mk ((by rw [hg]; exact Nat.ne_of_gt (blk_lt (g := gb206) (o := .cells #[.int .i64 0, .int .i64 0] 27 (0, 0)) (by (with_reducible repeat (first | refine blk_drewN ?_ _ | refine blk_drew ?_ | refine blk_alloc ?_ _)); exact BK206.out)) : gb207 ≠ gb206))
                                        clear HO173
                                        clear HO200
                                        clear BK170
                                        clear BK175
                                        clear BK206
                                        clear HB
                                        have HO173 := n0_
                                        have HO200 := n1_
                                        have BK170 := n2_
                                        have BK175 := n3_
                                        have BK206 := n4_
                                        have HB := n5_
                                        have BK207 := n6_
                                        have GW207 := n7_
                                        have GE207 := n8_
                                        have NB170_207 := n9_
                                        have NB207_170 := n10_
                                        have NB175_207 := n11_
                                        have NB207_175 := n12_
                                        have NB206_207 := n13_
                                        have NB207_206 := n14_
                                        clear n0_ n1_ n2_ n3_ n4_ n5_ n6_ n7_ n8_ n9_ n10_ n11_ n12_ n13_ n14_
                                        clear hb hbox hg
                                        refine hK.out _ _ ⟨(blk_cell BK175.out 0).trans rfl, (blk_cell BK175.out 1).trans rfl, (blk_cell BK175.out 2).trans rfl, (blk_cell BK170.out 0).trans rfl, (blk_cell BK170.out 1).trans rfl⟩ (fun hHeld => ?_)
                                        clear hK K
                                        refine norm_ (a' := ?_) ?_ ?_
                                        rotate_left
                                        · show Act.put _ (some 12) _ = _
                                          simp only [Act.put, List.setIfInBounds_toArray, List.set_cons_zero, List.set_cons_succ, i64_w, i32_w]
                                          rfl
                                        exact norm_ (by first | (simp only [putAll, Act.put, List.setIfInBounds_toArray, List.set_cons_zero, List.set_cons_succ]; done) | (simp only [putAll, Act.put, List.setIfInBounds_toArray, List.set_cons_zero, List.set_cons_succ]; rfl)) (hJ5_12_13 ((.slice Ao309 y198.length co309), gb206, gb207) _ ⟨hHeld, (by (with_reducible repeat (first | apply Kd.R_alloc | apply Kd.R_drewN | apply Kd.R_drew)); exact HO173.out), (by (with_reducible repeat (first | apply MR.R_alloc | apply MR.R_drewN | apply MR.R_drew)); exact HO200.out), (by (with_reducible repeat (first | refine blk_drewN ?_ _ | refine blk_drew ?_ | refine blk_alloc ?_ _)); exact BK170.out), (by (with_reducible repeat (first | refine blk_drewN ?_ _ | refine blk_drew ?_ | refine blk_alloc ?_ _)); exact BK175.out), (by (with_reducible repeat (first | refine blk_drewN ?_ _ | refine blk_drew ?_ | refine blk_alloc ?_ _)); exact BK206.out), (by (with_reducible repeat (first | refine blk_drewN ?_ _ | refine blk_drew ?_ | refine blk_alloc ?_ _)); exact BK207.out), GW206.out, GE206.out, NB170_206.out, NB206_170.out, NB175_206.out, NB206_175.out, NB207_206.out, NB206_207.out, GW207.out, GE207.out, NB170_207.out, NB207_170.out, NB175_207.out, NB207_175.out, (by repeat (first | (with_reducible first | exact HB.out | apply below_alloc | apply pw_below_drewN | apply below_drew1 | refine below_set ?_ GE170.out | refine below_set ?_ GE175.out | refine below_set ?_ GE206.out | refine below_set ?_ GE207.out) | exact HB.out))⟩)
                                  · skip
                                    rintro v199 w309 ⟨hS_, h0_, h1_, h2_, h3_, h4_⟩
                                    have n0_ : Aside0 (Kd.R k38 38 w309 w.heap.size (fun k_ => k_ ≠ gb175) (.slice (some ad174) t171.length co299) t171) := ⟨h0_⟩
                                    have n1_ : Aside0 (MR 5 w309 w.heap.size (fun _ => True) v199 y198) := ⟨h1_⟩
                                    have n2_ : Aside0 (w309.heap[gb170]? = some (.cells #[.int .i64 a2_0, .int .i64 a2_1] 27 (0, 0))) := ⟨h2_⟩
                                    have n3_ : Aside0 (w309.heap[gb175]? = some (.cells #[.string ((rd_T38 t171 (ji6)).f0), .int .i64 ((rd_T38 t171 (ji6)).f1), .int .i64 ((rd_T38 t171 (ji6)).f2)] 38 (0, 0))) := ⟨h3_⟩
                                    have n4_ : Aside0 (Below w.heap.size w w309) := ⟨h4_⟩
                                    clear HO173
                                    clear BK170
                                    clear BK175
                                    clear HB
                                    clear h0_ h1_ h2_ h3_ h4_
                                    have HO173 := n0_
                                    have HO200 := n1_
                                    have BK170 := n2_
                                    have BK175 := n3_
                                    have HB := n4_
                                    clear n0_ n1_ n2_ n3_ n4_
                                    have hHeld : w309.cell? ⟨gb175, 0, none⟩ = some (.string ((rd_T38 t171 (ji6)).f0)) ∧ w309.cell? ⟨gb175, 1, none⟩ = some (.int .i64 ((rd_T38 t171 (ji6)).f1)) ∧ w309.cell? ⟨gb175, 2, none⟩ = some (.int .i64 ((rd_T38 t171 (ji6)).f2)) ∧ w309.cell? ⟨gb170, 0, none⟩ = some (.int .i64 a2_0) ∧ w309.cell? ⟨gb170, 1, none⟩ = some (.int .i64 a2_1) := hS_
                                    refine norm_ (a' := ?_) ?_ ?_
                                    rotate_left
                                    · simp only [putAll, Act.put, List.setIfInBounds_toArray, List.set_cons_zero, List.set_cons_succ]
                                      rfl
                                    refine two_ (i := 12) (j := 13) (Ni := some 10) (Nj := some 12) #[true, true, true, true, true, true, true, true, true, true, true, true, true, false, false, false, false] #[true, true, true, true, true, true, true, true, true, true, true, true, false, true, false, false, false] rfl rfl rfl rfl (two_of HT_.out (by kernel_rfl)) (by decide) (by decide) (fun K hK => ?_) (fun K hK => ?_)
                                    · skip
                                      refine box_step ?hg (N := 10) ?hd (cs := #[.int .i64 0, .int .i64 0]) (t := 27) ?hr ?_; (case hd => rfl); (case hg => rfl); (case hr => first | (go_simp; done) | (go_simp; rfl))
                                      intro gb206 hg w310 hbox hb
                                      have n0_ := Aside0.mk (Kd.R_below (by (with_reducible repeat (first | apply Kd.R_alloc | apply Kd.R_drewN | apply Kd.R_drew)); exact HO173.out) hb)
                                      have n1_ := Aside0.mk (MR.R_below (by (with_reducible repeat (first | apply MR.R_alloc | apply MR.R_drewN | apply MR.R_drew)); exact HO200.out) hb)
                                      have n2_ := Aside0.mk (blk_below (g := gb170) (o := .cells #[.int .i64 a2_0, .int .i64 a2_1] 27 (0, 0)) (by (with_reducible repeat (first | refine blk_drewN ?_ _ | refine blk_drew ?_ | refine blk_alloc ?_ _)); exact BK170.out) hb)
                                      have n3_ := Aside0.mk (blk_below (g := gb175) (o := .cells #[.string ((rd_T38 t171 (ji6)).f0), .int .i64 ((rd_T38 t171 (ji6)).f1), .int .i64 ((rd_T38 t171 (ji6)).f2)] 38 (0, 0)) (by (with_reducible repeat (first | refine blk_drewN ?_ _ | refine blk_drew ?_ | refine blk_alloc ?_ _)); exact BK175.out) hb)
                                      have n4_ := Aside0.mk (below_step (by repeat (first | (with_reducible first | exact HB.out | apply below_alloc | apply pw_below_drewN | apply below_drew1 | refine below_set ?_ GE170.out | refine below_set ?_ GE175.out) | exact HB.out)) hb)
                                      have n5_ := Aside0.mk (hbox)
                                      have n6_ := Aside0.mk ((by rw [hg]; exact (below_size (by repeat (first | (with_reducible first | exact HB.out | apply below_alloc | apply pw_below_drewN | apply below_drew1 | refine below_set ?_ GE170.out | refine below_set ?_ GE175.out) | exact HB.out))) : w.heap.size ≤ gb206))
                                      have n7_ := Aside0.mk ((by rw [hg]; exact (below_size (by repeat (first | (with_reducible first | exact HB.out | apply below_alloc | apply pw_below_drewN | apply below_drew1 | refine below_set ?_ GE170.out | refine below_set ?_ GE175.out) | exact HB.out))) : w.heap.size ≤ gb206))
                                      have n8_ := Aside0.mk ((by rw [hg]; exact Nat.ne_of_lt (blk_lt (g := gb170) (o := .cells #[.int .i64 a2_0, .int .i64 a2_1] 27 (0, 0)) (by (with_reducible repeat (first | refine blk_drewN ?_ _ | refine blk_drew ?_ | refine blk_alloc ?_ _)); exact BK170.out)) : gb170 ≠ gb206))
                                      have n9_ := Aside0.mk ((by rw [hg]; exact Nat.ne_of_gt (blk_lt (g := gb170) (o := .cells #[.int .i64 a2_0, .int .i64 a2_1] 27 (0, 0)) (by (with_reducible repeat (first | refine blk_drewN ?_ _ | refine blk_drew ?_ | refine blk_alloc ?_ _)); exact BK170.out)) : gb206 ≠ gb170))
                                      have n10_ := Aside0.mk ((by rw [hg]; exact Nat.ne_of_lt (blk_lt (g := gb175) (o := .cells #[.string ((rd_T38 t171 (ji6)).f0), .int .i64 ((rd_T38 t171 (ji6)).f1), .int .i64 ((rd_T38 t171 (ji6)).f2)] 38 (0, 0)) (by (with_reducible repeat (first | refine blk_drewN ?_ _ | refine blk_drew ?_ | refine blk_alloc ?_ _)); exact BK175.out)) : gb175 ≠ gb206))
                                      have n11_ := Aside0.mk ((by rw [hg]; exact Nat.ne_of_gt (blk_lt (g := gb175) (o := .cells #[.string ((rd_T38 t171 (ji6)).f0), .int .i64 ((rd_T38 t171 (ji6)).f1), .int .i64 ((rd_T38 t171 (ji6)).f2)] 38 (0, 0)) (by (with_reducible repeat (first | refine blk_drewN ?_ _ | refine blk_drew ?_ | refine blk_alloc ?_ _)); exact BK175.out)) : gb206 ≠ gb175))
                                      clear HO173
                                      clear HO200
                                      clear BK170
                                      clear BK175
                                      clear HB
                                      have HO173 := n0_
                                      have HO200 := n1_
                                      have BK170 := n2_
                                      have BK175 := n3_
                                      have HB := n4_
                                      have BK206 := n5_
                                      have GW206 := n6_
                                      have GE206 := n7_
                                      have NB170_206 := n8_
                                      have NB206_170 := n9_
                                      have NB175_206 := n10_
                                      have NB206_175 := n11_
                                      clear n0_ n1_ n2_ n3_ n4_ n5_ n6_ n7_ n8_ n9_ n10_ n11_
                                      clear hb hbox hg
                                      refine hK.out _ _ ⟨(blk_cell BK175.out 0).trans rfl, (blk_cell BK175.out 1).trans rfl, (blk_cell BK175.out 2).trans rfl, (blk_cell BK170.out 0).trans rfl, (blk_cell BK170.out 1).trans rfl⟩ (fun hHeld => ?_)
                                      clear hK K
                                      refine norm_ (a' := ?_) ?_ ?_
                                      rotate_left
                                      · show Act.put _ (some 10) _ = _
                                        simp only [Act.put, List.setIfInBounds_toArray, List.set_cons_zero, List.set_cons_succ, i64_w, i32_w]
                                        rfl
                                      exact norm_ (by first | (simp only [putAll, Act.put, List.setIfInBounds_toArray, List.set_cons_zero, List.set_cons_succ]; done) | (simp only [putAll, Act.put, List.setIfInBounds_toArray, List.set_cons_zero, List.set_cons_succ]; rfl)) (hJ5_7_12 (v199, gb206) _ ⟨hHeld, (by (with_reducible repeat (first | apply Kd.R_alloc | apply Kd.R_drewN | apply Kd.R_drew)); exact HO173.out), (by (with_reducible repeat (first | apply MR.R_alloc | apply MR.R_drewN | apply MR.R_drew)); exact HO200.out), (by (with_reducible repeat (first | refine blk_drewN ?_ _ | refine blk_drew ?_ | refine blk_alloc ?_ _)); exact BK170.out), (by (with_reducible repeat (first | refine blk_drewN ?_ _ | refine blk_drew ?_ | refine blk_alloc ?_ _)); exact BK175.out), (by (with_reducible repeat (first | refine blk_drewN ?_ _ | refine blk_drew ?_ | refine blk_alloc ?_ _)); exact BK206.out), GW206.out, GE206.out, NB170_206.out, NB206_170.out, NB175_206.out, NB206_175.out, (by repeat (first | (with_reducible first | exact HB.out | apply below_alloc | apply pw_below_drewN | apply below_drew1 | refine below_set ?_ GE170.out | refine below_set ?_ GE175.out | refine below_set ?_ GE206.out) | exact HB.out))⟩)
                                    · skip
                                      refine box_step ?hg (N := 12) ?hd (cs := #[.int .i64 0, .int .i64 0]) (t := 30) ?hr ?_; (case hd => rfl); (case hg => rfl); (case hr => first | (go_simp; done) | (go_simp; rfl))
                                      intro gb207 hg w310 hbox hb
                                      have n0_ := Aside0.mk (Kd.R_below (by (with_reducible repeat (first | apply Kd.R_alloc | apply Kd.R_drewN | apply Kd.R_drew)); exact HO173.out) hb)
                                      have n1_ := Aside0.mk (MR.R_below (by (with_reducible repeat (first | apply MR.R_alloc | apply MR.R_drewN | apply MR.R_drew)); exact HO200.out) hb)
                                      have n2_ := Aside0.mk (blk_below (g := gb170) (o := .cells #[.int .i64 a2_0, .int .i64 a2_1] 27 (0, 0)) (by (with_reducible repeat (first | refine blk_drewN ?_ _ | refine blk_drew ?_ | refine blk_alloc ?_ _)); exact BK170.out) hb)
                                      have n3_ := Aside0.mk (blk_below (g := gb175) (o := .cells #[.string ((rd_T38 t171 (ji6)).f0), .int .i64 ((rd_T38 t171 (ji6)).f1), .int .i64 ((rd_T38 t171 (ji6)).f2)] 38 (0, 0)) (by (with_reducible repeat (first | refine blk_drewN ?_ _ | refine blk_drew ?_ | refine blk_alloc ?_ _)); exact BK175.out) hb)
                                      have n4_ := Aside0.mk (below_step (by repeat (first | (with_reducible first | exact HB.out | apply below_alloc | apply pw_below_drewN | apply below_drew1 | refine below_set ?_ GE170.out | refine below_set ?_ GE175.out) | exact HB.out)) hb)
                                      have n5_ := Aside0.mk (hbox)
                                      have n6_ := Aside0.mk ((by rw [hg]; exact (below_size (by repeat (first | (with_reducible first | exact HB.out | apply below_alloc | apply pw_below_drewN | apply below_drew1 | refine below_set ?_ GE170.out | refine below_set ?_ GE175.out) | exact HB.out))) : w.heap.size ≤ gb207))
                                      have n7_ := Aside0.mk ((by rw [hg]; exact (below_size (by repeat (first | (with_reducible first | exact HB.out | apply below_alloc | apply pw_below_drewN | apply below_drew1 | refine below_set ?_ GE170.out | refine below_set ?_ GE175.out) | exact HB.out))) : w.heap.size ≤ gb207))
                                      have n8_ := Aside0.mk ((by rw [hg]; exact Nat.ne_of_lt (blk_lt (g := gb170) (o := .cells #[.int .i64 a2_0, .int .i64 a2_1] 27 (0, 0)) (by (with_reducible repeat (first | refine blk_drewN ?_ _ | refine blk_drew ?_ | refine blk_alloc ?_ _)); exact BK170.out)) : gb170 ≠ gb207))
                                      have n9_ := Aside0.mk ((by rw [hg]; exact Nat.ne_of_gt (blk_lt (g := gb170) (o := .cells #[.int .i64 a2_0, .int .i64 a2_1] 27 (0, 0)) (by (with_reducible repeat (first | refine blk_drewN ?_ _ | refine blk_drew ?_ | refine blk_alloc ?_ _)); exact BK170.out)) : gb207 ≠ gb170))
                                      have n10_ := Aside0.mk ((by rw [hg]; exact Nat.ne_of_lt (blk_lt (g := gb175) (o := .cells #[.string ((rd_T38 t171 (ji6)).f0), .int .i64 ((rd_T38 t171 (ji6)).f1), .int .i64 ((rd_T38 t171 (ji6)).f2)] 38 (0, 0)) (by (with_reducible repeat (first | refine blk_drewN ?_ _ | refine blk_drew ?_ | refine blk_alloc ?_ _)); exact BK175.out)) : gb175 ≠ gb207))
                                      have n11_ := Aside0.mk ((by rw [hg]; exact Nat.ne_of_gt (blk_lt (g := gb175) (o := .cells #[.string ((rd_T38 t171 (ji6)).f0), .int .i64 ((rd_T38 t171 (ji6)).f1), .int .i64 ((rd_T38 t171 (ji6)).f2)] 38 (0, 0)) (by (with_reducible repeat (first | refine blk_drewN ?_ _ | refine blk_drew ?_ | refine blk_alloc ?_ _)); exact BK175.out)) : gb207 ≠ gb175))
                                      clear HO173
                                      clear HO200
                                      clear BK170
                                      clear BK175
                                      clear HB
                                      have HO173 := n0_
                                      have HO200 := n1_
                                      have BK170 := n2_
                                      have BK175 := n3_
                                      have HB := n4_
                                      have BK207 := n5_
                                      have GW207 := n6_
                                      have GE207 := n7_
                                      have NB170_207 := n8_
                                      have NB207_170 := n9_
                                      have NB175_207 := n10_
                                      have NB207_175 := n11_
                                      clear n0_ n1_ n2_ n3_ n4_ n5_ n6_ n7_ n8_ n9_ n10_ n11_
                                      clear hb hbox hg
                                      refine hK.out _ _ ⟨(blk_cell BK175.out 0).trans rfl, (blk_cell BK175.out 1).trans rfl, (blk_cell BK175.out 2).trans rfl, (blk_cell BK170.out 0).trans rfl, (blk_cell BK170.out 1).trans rfl⟩ (fun hHeld => ?_)
                                      clear hK K
                                      refine norm_ (a' := ?_) ?_ ?_
                                      rotate_left
                                      · show Act.put _ (some 12) _ = _
                                        simp only [Act.put, List.setIfInBounds_toArray, List.set_cons_zero, List.set_cons_succ, i64_w, i32_w]
                                        rfl
                                      exact norm_ (by first | (simp only [putAll, Act.put, List.setIfInBounds_toArray, List.set_cons_zero, List.set_cons_succ]; done) | (simp only [putAll, Act.put, List.setIfInBounds_toArray, List.set_cons_zero, List.set_cons_succ]; rfl)) (hJ5_7_13 (v199, gb207) _ ⟨hHeld, (by (with_reducible repeat (first | apply Kd.R_alloc | apply Kd.R_drewN | apply Kd.R_drew)); exact HO173.out), (by (with_reducible repeat (first | apply MR.R_alloc | apply MR.R_drewN | apply MR.R_drew)); exact HO200.out), (by (with_reducible repeat (first | refine blk_drewN ?_ _ | refine blk_drew ?_ | refine blk_alloc ?_ _)); exact BK170.out), (by (with_reducible repeat (first | refine blk_drewN ?_ _ | refine blk_drew ?_ | refine blk_alloc ?_ _)); exact BK175.out), (by (with_reducible repeat (first | refine blk_drewN ?_ _ | refine blk_drew ?_ | refine blk_alloc ?_ _)); exact BK207.out), GW207.out, GE207.out, NB170_207.out, NB207_170.out, NB175_207.out, NB207_175.out, (by repeat (first | (with_reducible first | exact HB.out | apply below_alloc | apply pw_below_drewN | apply below_drew1 | refine below_set ?_ GE170.out | refine below_set ?_ GE175.out | refine below_set ?_ GE207.out) | exact HB.out))⟩)
                                · skip
                                  rintro ⟨v199, gb206, gb207⟩ w309 ⟨hS_, h0_, h1_, h2_, h3_, h4_, h5_, h6_, h7_, h8_, h9_, h10_, h11_, h12_, h13_, h14_, h15_, h16_, h17_, h18_, h19_, h20_⟩
                                  have n0_ : Aside0 (Kd.R k38 38 w309 w.heap.size (fun k_ => k_ ≠ gb175) (.slice (some ad174) t171.length co299) t171) := ⟨h0_⟩
                                  have n1_ : Aside0 (MR 5 w309 w.heap.size (fun _ => True) v199 y198) := ⟨h1_⟩
                                  have n2_ : Aside0 (w309.heap[gb170]? = some (.cells #[.int .i64 a2_0, .int .i64 a2_1] 27 (0, 0))) := ⟨h2_⟩
                                  have n3_ : Aside0 (w309.heap[gb175]? = some (.cells #[.string ((rd_T38 t171 (ji6)).f0), .int .i64 ((rd_T38 t171 (ji6)).f1), .int .i64 ((rd_T38 t171 (ji6)).f2)] 38 (0, 0))) := ⟨h3_⟩
                                  have n4_ : Aside0 (w309.heap[gb206]? = some (.cells #[.int .i64 0, .int .i64 0] 27 (0, 0))) := ⟨h4_⟩
                                  have n5_ : Aside0 (w309.heap[gb207]? = some (.cells #[.int .i64 0, .int .i64 0] 30 (0, 0))) := ⟨h5_⟩
                                  have n6_ : Aside0 (w.heap.size ≤ gb206) := ⟨h6_⟩
                                  have n7_ : Aside0 (w.heap.size ≤ gb206) := ⟨h7_⟩
                                  have n8_ : Aside0 (gb170 ≠ gb206) := ⟨h8_⟩
                                  have n9_ : Aside0 (gb206 ≠ gb170) := ⟨h9_⟩
                                  have n10_ : Aside0 (gb175 ≠ gb206) := ⟨h10_⟩
                                  have n11_ : Aside0 (gb206 ≠ gb175) := ⟨h11_⟩
                                  have n12_ : Aside0 (gb207 ≠ gb206) := ⟨h12_⟩
                                  have n13_ : Aside0 (gb206 ≠ gb207) := ⟨h13_⟩
                                  have n14_ : Aside0 (w.heap.size ≤ gb207) := ⟨h14_⟩
                                  have n15_ : Aside0 (w.heap.size ≤ gb207) := ⟨h15_⟩
                                  have n16_ : Aside0 (gb170 ≠ gb207) := ⟨h16_⟩
                                  have n17_ : Aside0 (gb207 ≠ gb170) := ⟨h17_⟩
                                  have n18_ : Aside0 (gb175 ≠ gb207) := ⟨h18_⟩
                                  have n19_ : Aside0 (gb207 ≠ gb175) := ⟨h19_⟩
                                  have n20_ : Aside0 (Below w.heap.size w w309) := ⟨h20_⟩
                                  clear HO173
                                  clear BK170
                                  clear BK175
                                  clear HB
                                  clear h0_ h1_ h2_ h3_ h4_ h5_ h6_ h7_ h8_ h9_ h10_ h11_ h12_ h13_ h14_ h15_ h16_ h17_ h18_ h19_ h20_
                                  have HO173 := n0_
                                  have HO200 := n1_
                                  have BK170 := n2_
                                  have BK175 := n3_
                                  have BK206 := n4_
                                  have BK207 := n5_
                                  have GW206 := n6_
                                  have GE206 := n7_
                                  have NB170_206 := n8_
                                  have NB206_170 := n9_
                                  have NB175_206 := n10_
                                  have NB206_175 := n11_
                                  have NB207_206 := n12_
                                  have NB206_207 := n13_
                                  have GW207 := n14_
                                  have GE207 := n15_
                                  have NB170_207 := n16_
                                  have NB207_170 := n17_
                                  have NB175_207 := n18_
                                  have NB207_175 := n19_
                                  have HB := n20_
                                  clear n0_ n1_ n2_ n3_ n4_ n5_ n6_ n7_ n8_ n9_ n10_ n11_ n12_ n13_ n14_ n15_ n16_ n17_ n18_ n19_ n20_
                                  have hHeld : w309.cell? ⟨gb175, 0, none⟩ = some (.string ((rd_T38 t171 (ji6)).f0)) ∧ w309.cell? ⟨gb175, 1, none⟩ = some (.int .i64 ((rd_T38 t171 (ji6)).f1)) ∧ w309.cell? ⟨gb175, 2, none⟩ = some (.int .i64 ((rd_T38 t171 (ji6)).f2)) ∧ w309.cell? ⟨gb170, 0, none⟩ = some (.int .i64 a2_0) ∧ w309.cell? ⟨gb170, 1, none⟩ = some (.int .i64 a2_1) := hS_
                                  obtain ⟨Ao310, co310, eo310⟩ := MR.R_slice HO200.out
                                  (first | subst eo310 | (injection eo310 with f1_ f2_ f3_; have f4_ := f1_.symm; have f5_ := f3_.symm; clear f1_ f2_ f3_; subst f4_; subst f5_))
                                  refine norm_ (a' := ?_) ?_ ?_
                                  rotate_left
                                  · simp only [putAll, Act.put, List.setIfInBounds_toArray, List.set_cons_zero, List.set_cons_succ]
                                    rfl
                                  refine one_ (i := 7) (N := some 42) #[true, true, true, true, true, true, true, true, false, false, false, false, true, true, false, false, false] rfl rfl (one_of HT_.out (by kernel_rfl)) (by decide) (fun K hK => ?_)
                                  refine goes_ Try.func23 (by kernel_rfl) rfl #[.slice Ao310 y198.length co310, .int .i64 1, .agg #[.int .i64 a2_0, .int .i64 a2_1]] (by rfl) rfl rfl (by (try simp only [List.map_toArray, List.map_cons, List.map_nil]); first | done | rfl | (simp only [List.length_drop, List.length_take]; rfl)) ?_
                                  with_reducible refine (escape_Next.calls k _ _ y198 1 a2_0 a2_1 t201 t202 t203 t204 t205 _ ?side1 ?side2 A290.out).mono ?_
                                  (case side1 => repeat (first | exact (MR.R_reads' HO200.out).2.2 | (with_reducible refine Kd.C_alloc ?_ _) | (with_reducible refine Kd.C_drewN ?_ _) | (with_reducible refine Kd.C_drew ?_)))
                                  (case side2 => exact (MR.R_reads' HO200.out).2.1)
                                  rintro e w311 ⟨rfl, hb⟩
                                  refine ⟨_, rfl, ?_⟩
                                  have n0_ := Aside0.mk (Kd.R_below (by (with_reducible repeat (first | apply Kd.R_alloc | apply Kd.R_drewN | apply Kd.R_drew)); exact HO173.out) hb)
                                  have n1_ := Aside0.mk (MR.R_below (by (with_reducible repeat (first | apply MR.R_alloc | apply MR.R_drewN | apply MR.R_drew)); exact HO200.out) hb)
                                  have n2_ := Aside0.mk (blk_below (g := gb170) (o := .cells #[.int .i64 a2_0, .int .i64 a2_1] 27 (0, 0)) (by (with_reducible repeat (first | refine blk_drewN ?_ _ | refine blk_drew ?_ | refine blk_alloc ?_ _)); exact BK170.out) hb)
                                  have n3_ := Aside0.mk (blk_below (g := gb175) (o := .cells #[.string ((rd_T38 t171 (ji6)).f0), .int .i64 ((rd_T38 t171 (ji6)).f1), .int .i64 ((rd_T38 t171 (ji6)).f2)] 38 (0, 0)) (by (with_reducible repeat (first | refine blk_drewN ?_ _ | refine blk_drew ?_ | refine blk_alloc ?_ _)); exact BK175.out) hb)
                                  have n4_ := Aside0.mk (blk_below (g := gb206) (o := .cells #[.int .i64 0, .int .i64 0] 27 (0, 0)) (by (with_reducible repeat (first | refine blk_drewN ?_ _ | refine blk_drew ?_ | refine blk_alloc ?_ _)); exact BK206.out) hb)
                                  have n5_ := Aside0.mk (blk_below (g := gb207) (o := .cells #[.int .i64 0, .int .i64 0] 30 (0, 0)) (by (with_reducible repeat (first | refine blk_drewN ?_ _ | refine blk_drew ?_ | refine blk_alloc ?_ _)); exact BK207.out) hb)
                                  have n6_ := Aside0.mk (below_step (by repeat (first | (with_reducible first | exact HB.out | apply below_alloc | apply pw_below_drewN | apply below_drew1 | refine below_set ?_ GE170.out | refine below_set ?_ GE175.out | refine below_set ?_ GE206.out | refine below_set ?_ GE207.out) | exact HB.out)) hb)
                                  clear HO173
                                  clear HO200
                                  clear BK170
                                  clear BK175
                                  clear BK206
                                  clear BK207
                                  clear HB
                                  have HO173 := n0_
                                  have HO200 := n1_
                                  have BK170 := n2_
                                  have BK175 := n3_
                                  have BK206 := n4_
                                  have BK207 := n5_
                                  have HB := n6_
                                  clear n0_ n1_ n2_ n3_ n4_ n5_ n6_
                                  (try clear hb)
                                  (try clear hb2)
                                  (try clear hk)
                                  (try clear hi)
                                  refine hK.out _ _ ⟨(blk_cell BK175.out 0).trans rfl, (blk_cell BK175.out 1).trans rfl, (blk_cell BK175.out 2).trans rfl, (blk_cell BK170.out 0).trans rfl, (blk_cell BK170.out 1).trans rfl⟩ (fun hHeld => ?_)
                                  clear hK K
                                  refine norm_ (a' := ?_) ?_ ?_
                                  rotate_left
                                  · show Act.put _ (some 42) _ = _
                                    simp only [Act.put, List.setIfInBounds_toArray, List.set_cons_zero, List.set_cons_succ, i64_w, i32_w]
                                    rfl
                                  refine pure_ (i := 8) (N := some 34) (v := ?_) (a' := ?_) #[true, true, true, true, true, true, true, true, true, false, false, false, true, true, false, false, false] rfl rfl (any_of HT_.out (by kernel_rfl)) (fun _ _ _ h => h) (Or.inl ⟨by rfl, ?_⟩) ?_ ?_
                                  rotate_left
                                  · intro w'
                                    go_simp
                                    with_reducible rfl
                                  rotate_left
                                  · simp only [Act.put, List.setIfInBounds_toArray, List.set_cons_zero, List.set_cons_succ, i64_w, i32_w]
                                    rfl
                                  refine pure_ (i := 9) (N := some 43) (v := ?_) (a' := ?_) #[true, true, true, true, true, true, true, true, true, true, false, false, true, true, false, false, false] rfl rfl (any_of HT_.out (by kernel_rfl)) (fun _ _ _ h => h) (Or.inl ⟨by rfl, ?_⟩) ?_ ?_
                                  rotate_left
                                  · intro w'
                                    go_simp
                                    with_reducible rfl
                                  rotate_left
                                  · simp only [Act.put, List.setIfInBounds_toArray, List.set_cons_zero, List.set_cons_succ, i64_w, i32_w]
                                    rfl
                                  refine pure_ (i := 10) (N := some 44) (v := ?_) (a' := ?_) #[true, true, true, true, true, true, true, true, true, true, true, false, true, true, false, false, false] rfl rfl (any_of HT_.out (by kernel_rfl)) (fun _ _ _ h => h) (Or.inl ⟨by rfl, ?_⟩) ?_ ?_
                                  rotate_left
                                  · intro w'
                                    go_simp
                                    with_reducible rfl
                                  rotate_left
                                  · simp only [Act.put, List.setIfInBounds_toArray, List.set_cons_zero, List.set_cons_succ, i64_w, i32_w]
                                    rfl
                                  refine pure_ (i := 11) (N := some 45) (v := ?_) (a' := ?_) #[true, true, true, true, true, true, true, true, true, true, true, true, true, true, false, false, false] rfl rfl (any_of HT_.out (by kernel_rfl)) (fun _ _ _ h => h) (Or.inl ⟨by rfl, ?_⟩) ?_ ?_
                                  rotate_left
                                  · intro w'
                                    go_simp
                                    with_reducible rfl
                                  rotate_left
                                  · simp only [Act.put, List.setIfInBounds_toArray, List.set_cons_zero, List.set_cons_succ, i64_w, i32_w]
                                    rfl
                                  exact norm_ (by first | (simp only [putAll, Act.put, List.setIfInBounds_toArray, List.set_cons_zero, List.set_cons_succ]; done) | (simp only [putAll, Act.put, List.setIfInBounds_toArray, List.set_cons_zero, List.set_cons_succ]; rfl)) (hJ5_7_12_13 (.slice Ao310 y198.length co310, gb206, gb207) _ ⟨hHeld, (by (with_reducible repeat (first | apply Kd.R_alloc | apply Kd.R_drewN | apply Kd.R_drew)); exact HO173.out), (by (with_reducible repeat (first | apply MR.R_alloc | apply MR.R_drewN | apply MR.R_drew)); exact HO200.out), (by (with_reducible repeat (first | refine blk_drewN ?_ _ | refine blk_drew ?_ | refine blk_alloc ?_ _)); exact BK170.out), (by (with_reducible repeat (first | refine blk_drewN ?_ _ | refine blk_drew ?_ | refine blk_alloc ?_ _)); exact BK175.out), (by (with_reducible repeat (first | refine blk_drewN ?_ _ | refine blk_drew ?_ | refine blk_alloc ?_ _)); exact BK206.out), (by (with_reducible repeat (first | refine blk_drewN ?_ _ | refine blk_drew ?_ | refine blk_alloc ?_ _)); exact BK207.out), GW206.out, GE206.out, NB170_206.out, NB206_170.out, NB175_206.out, NB206_175.out, NB207_206.out, NB206_207.out, GW207.out, GE207.out, NB170_207.out, NB207_170.out, NB175_207.out, NB207_175.out, (by repeat (first | (with_reducible first | exact HB.out | apply below_alloc | apply pw_below_drewN | apply below_drew1 | refine below_set ?_ GE170.out | refine below_set ?_ GE175.out | refine below_set ?_ GE206.out | refine below_set ?_ GE207.out) | exact HB.out))⟩)
                              · skip
                                rintro ⟨v199, gb207⟩ w310 ⟨hS_, h0_, h1_, h2_, h3_, h4_, h5_, h6_, h7_, h8_, h9_, h10_, h11_⟩
                                have n0_ : Aside0 (Kd.R k38 38 w310 w.heap.size (fun k_ => k_ ≠ gb175) (.slice (some ad174) t171.length co299) t171) := ⟨h0_⟩
                                have n1_ : Aside0 (MR 5 w310 w.heap.size (fun _ => True) v199 y198) := ⟨h1_⟩
                                have n2_ : Aside0 (w310.heap[gb170]? = some (.cells #[.int .i64 a2_0, .int .i64 a2_1] 27 (0, 0))) := ⟨h2_⟩
                                have n3_ : Aside0 (w310.heap[gb175]? = some (.cells #[.string ((rd_T38 t171 (ji6)).f0), .int .i64 ((rd_T38 t171 (ji6)).f1), .int .i64 ((rd_T38 t171 (ji6)).f2)] 38 (0, 0))) := ⟨h3_⟩
                                have n4_ : Aside0 (w310.heap[gb207]? = some (.cells #[.int .i64 0, .int .i64 0] 30 (0, 0))) := ⟨h4_⟩
                                have n5_ : Aside0 (w.heap.size ≤ gb207) := ⟨h5_⟩
                                have n6_ : Aside0 (w.heap.size ≤ gb207) := ⟨h6_⟩
                                have n7_ : Aside0 (gb170 ≠ gb207) := ⟨h7_⟩
                                have n8_ : Aside0 (gb207 ≠ gb170) := ⟨h8_⟩
                                have n9_ : Aside0 (gb175 ≠ gb207) := ⟨h9_⟩
                                have n10_ : Aside0 (gb207 ≠ gb175) := ⟨h10_⟩
                                have n11_ : Aside0 (Below w.heap.size w w310) := ⟨h11_⟩
                                clear HO173
                                clear BK170
                                clear BK175
                                clear HB
                                clear h0_ h1_ h2_ h3_ h4_ h5_ h6_ h7_ h8_ h9_ h10_ h11_
                                have HO173 := n0_
                                have HO200 := n1_
                                have BK170 := n2_
                                have BK175 := n3_
                                have BK207 := n4_
                                have GW207 := n5_
                                have GE207 := n6_
                                have NB170_207 := n7_
                                have NB207_170 := n8_
                                have NB175_207 := n9_
                                have NB207_175 := n10_
                                have HB := n11_
                                clear n0_ n1_ n2_ n3_ n4_ n5_ n6_ n7_ n8_ n9_ n10_ n11_
                                have hHeld : w310.cell? ⟨gb175, 0, none⟩ = some (.string ((rd_T38 t171 (ji6)).f0)) ∧ w310.cell? ⟨gb175, 1, none⟩ = some (.int .i64 ((rd_T38 t171 (ji6)).f1)) ∧ w310.cell? ⟨gb175, 2, none⟩ = some (.int .i64 ((rd_T38 t171 (ji6)).f2)) ∧ w310.cell? ⟨gb170, 0, none⟩ = some (.int .i64 a2_0) ∧ w310.cell? ⟨gb170, 1, none⟩ = some (.int .i64 a2_1) := hS_
                                refine norm_ (a' := ?_) ?_ ?_
                                rotate_left
                                · simp only [putAll, Act.put, List.setIfInBounds_toArray, List.set_cons_zero, List.set_cons_succ]
                                  rfl
                                refine one_ (i := 12) (N := some 10) #[true, true, true, true, true, true, true, true, true, true, true, true, true, true, false, false, false] rfl rfl (one_of HT_.out (by kernel_rfl)) (by decide) (fun K hK => ?_)
                                refine box_step ?hg (N := 10) ?hd (cs := #[.int .i64 0, .int .i64 0]) (t := 27) ?hr ?_; (case hd => rfl); (case hg => rfl); (case hr => first | (go_simp; done) | (go_simp; rfl))
                                intro gb206 hg w311 hbox hb
                                have n0_ := Aside0.mk (Kd.R_below (by (with_reducible repeat (first | apply Kd.R_alloc | apply Kd.R_drewN | apply Kd.R_drew)); exact HO173.out) hb)
                                have n1_ := Aside0.mk (MR.R_below (by (with_reducible repeat (first | apply MR.R_alloc | apply MR.R_drewN | apply MR.R_drew)); exact HO200.out) hb)
                                have n2_ := Aside0.mk (blk_below (g := gb170) (o := .cells #[.int .i64 a2_0, .int .i64 a2_1] 27 (0, 0)) (by (with_reducible repeat (first | refine blk_drewN ?_ _ | refine blk_drew ?_ | refine blk_alloc ?_ _)); exact BK170.out) hb)
                                have n3_ := Aside0.mk (blk_below (g := gb175) (o := .cells #[.string ((rd_T38 t171 (ji6)).f0), .int .i64 ((rd_T38 t171 (ji6)).f1), .int .i64 ((rd_T38 t171 (ji6)).f2)] 38 (0, 0)) (by (with_reducible repeat (first | refine blk_drewN ?_ _ | refine blk_drew ?_ | refine blk_alloc ?_ _)); exact BK175.out) hb)
                                have n4_ := Aside0.mk (blk_below (g := gb207) (o := .cells #[.int .i64 0, .int .i64 0] 30 (0, 0)) (by (with_reducible repeat (first | refine blk_drewN ?_ _ | refine blk_drew ?_ | refine blk_alloc ?_ _)); exact BK207.out) hb)
                                have n5_ := Aside0.mk (below_step (by repeat (first | (with_reducible first | exact HB.out | apply below_alloc | apply pw_below_drewN | apply below_drew1 | refine below_set ?_ GE170.out | refine below_set ?_ GE175.out | refine below_set ?_ GE207.out) | exact HB.out)) hb)
                                have n6_ := Aside0.mk (hbox)
                                have n7_ := Aside0.mk ((by rw [hg]; exact (below_size (by repeat (first | (with_reducible first | exact HB.out | apply below_alloc | apply pw_below_drewN | apply below_drew1 | refine below_set ?_ GE170.out | refine below_set ?_ GE175.out | refine below_set ?_ GE207.out) | exact HB.out))) : w.heap.size ≤ gb206))
                                have n8_ := Aside0.mk ((by rw [hg]; exact (below_size (by repeat (first | (with_reducible first | exact HB.out | apply below_alloc | apply pw_below_drewN | apply below_drew1 | refine below_set ?_ GE170.out | refine below_set ?_ GE175.out | refine below_set ?_ GE207.out) | exact HB.out))) : w.heap.size ≤ gb206))
                                have n9_ := Aside0.mk ((by rw [hg]; exact Nat.ne_of_lt (blk_lt (g := gb170) (o := .cells #[.int .i64 a2_0, .int .i64 a2_1] 27 (0, 0)) (by (with_reducible repeat (first | refine blk_drewN ?_ _ | refine blk_drew ?_ | refine blk_alloc ?_ _)); exact BK170.out)) : gb170 ≠ gb206))
                                have n10_ := Aside0.mk ((by rw [hg]; exact Nat.ne_of_gt (blk_lt (g := gb170) (o := .cells #[.int .i64 a2_0, .int .i64 a2_1] 27 (0, 0)) (by (with_reducible repeat (first | refine blk_drewN ?_ _ | refine blk_drew ?_ | refine blk_alloc ?_ _)); exact BK170.out)) : gb206 ≠ gb170))
                                have n11_ := Aside0.mk ((by rw [hg]; exact Nat.ne_of_lt (blk_lt (g := gb175) (o := .cells #[.string ((rd_T38 t171 (ji6)).f0), .int .i64 ((rd_T38 t171 (ji6)).f1), .int .i64 ((rd_T38 t171 (ji6)).f2)] 38 (0, 0)) (by (with_reducible repeat (first | refine blk_drewN ?_ _ | refine blk_drew ?_ | refine blk_alloc ?_ _)); exact BK175.out)) : gb175 ≠ gb206))
                                have n12_ := Aside0.mk ((by rw [hg]; exact Nat.ne_of_gt (blk_lt (g := gb175) (o := .cells #[.string ((rd_T38 t171 (ji6)).f0), .int .i64 ((rd_T38 t171 (ji6)).f1), .int .i64 ((rd_T38 t171 (ji6)).f2)] 38 (0, 0)) (by (with_reducible repeat (first | refine blk_drewN ?_ _ | refine blk_drew ?_ | refine blk_alloc ?_ _)); exact BK175.out)) : gb206 ≠ gb175))
                                have n13_ := Aside0.mk ((by rw [hg]; exact Nat.ne_of_lt (blk_lt (g := gb207) (o := .cells #[.int .i64 0, .int .i64 0] 30 (0, 0)) (by (with_reducible repeat (first | refine blk_drewN ?_ _ | refine blk_drew ?_ | refine blk_alloc ?_ _)); exact BK207.out)) : gb207 ≠ gb206))
                                have n14_ := Aside0.mk ((by rw [hg]; exact Nat.ne_of_gt (blk_lt (g := gb207) (o := .cells #[.int .i64 0, .int .i64 0] 30 (0, 0)) (by (with_reducible repeat (first | refine blk_drewN ?_ _ | refine blk_drew ?_ | refine blk_alloc ?_ _)); exact BK207.out)) : gb206 ≠ gb207))
                                clear HO173
                                clear HO200
                                clear BK170
                                clear BK175
                                clear BK207
                                clear HB
                                have HO173 := n0_
                                have HO200 := n1_
                                have BK170 := n2_
                                have BK175 := n3_
                                have BK207 := n4_
                                have HB := n5_
                                have BK206 := n6_
                                have GW206 := n7_
                                have GE206 := n8_
                                have NB170_206 := n9_
                                have NB206_170 := n10_
                                have NB175_206 := n11_
                                have NB206_175 := n12_
                                have NB207_206 := n13_
                                have NB206_207 := n14_
                                clear n0_ n1_ n2_ n3_ n4_ n5_ n6_ n7_ n8_ n9_ n10_ n11_ n12_ n13_ n14_
                                clear hb hbox hg
                                refine hK.out _ _ ⟨(blk_cell BK175.out 0).trans rfl, (blk_cell BK175.out 1).trans rfl, (blk_cell BK175.out 2).trans rfl, (blk_cell BK170.out 0).trans rfl, (blk_cell BK170.out 1).trans rfl⟩ (fun hHeld => ?_)
                                clear hK K
                                refine norm_ (a' := ?_) ?_ ?_
                                rotate_left
                                · show Act.put _ (some 10) _ = _
                                  simp only [Act.put, List.setIfInBounds_toArray, List.set_cons_zero, List.set_cons_succ, i64_w, i32_w]
                                  rfl
                                exact norm_ (by first | (simp only [putAll, Act.put, List.setIfInBounds_toArray, List.set_cons_zero, List.set_cons_succ]; done) | (simp only [putAll, Act.put, List.setIfInBounds_toArray, List.set_cons_zero, List.set_cons_succ]; rfl)) (hJ5_7_12_13 (v199, gb206, gb207) _ ⟨hHeld, (by (with_reducible repeat (first | apply Kd.R_alloc | apply Kd.R_drewN | apply Kd.R_drew)); exact HO173.out), (by (with_reducible repeat (first | apply MR.R_alloc | apply MR.R_drewN | apply MR.R_drew)); exact HO200.out), (by (with_reducible repeat (first | refine blk_drewN ?_ _ | refine blk_drew ?_ | refine blk_alloc ?_ _)); exact BK170.out), (by (with_reducible repeat (first | refine blk_drewN ?_ _ | refine blk_drew ?_ | refine blk_alloc ?_ _)); exact BK175.out), (by (with_reducible repeat (first | refine blk_drewN ?_ _ | refine blk_drew ?_ | refine blk_alloc ?_ _)); exact BK206.out), (by (with_reducible repeat (first | refine blk_drewN ?_ _ | refine blk_drew ?_ | refine blk_alloc ?_ _)); exact BK207.out), GW206.out, GE206.out, NB170_206.out, NB206_170.out, NB175_206.out, NB206_175.out, NB207_206.out, NB206_207.out, GW207.out, GE207.out, NB170_207.out, NB207_170.out, NB175_207.out, NB207_175.out, (by repeat (first | (with_reducible first | exact HB.out | apply below_alloc | apply pw_below_drewN | apply below_drew1 | refine below_set ?_ GE170.out | refine below_set ?_ GE175.out | refine below_set ?_ GE207.out | refine below_set ?_ GE206.out) | exact HB.out))⟩)
                            · skip
                              rintro ⟨v199, gb206⟩ w310 ⟨hS_, h0_, h1_, h2_, h3_, h4_, h5_, h6_, h7_, h8_, h9_, h10_, h11_⟩
                              have n0_ : Aside0 (Kd.R k38 38 w310 w.heap.size (fun k_ => k_ ≠ gb175) (.slice (some ad174) t171.length co299) t171) := ⟨h0_⟩
                              have n1_ : Aside0 (MR 5 w310 w.heap.size (fun _ => True) v199 y198) := ⟨h1_⟩
                              have n2_ : Aside0 (w310.heap[gb170]? = some (.cells #[.int .i64 a2_0, .int .i64 a2_1] 27 (0, 0))) := ⟨h2_⟩
                              have n3_ : Aside0 (w310.heap[gb175]? = some (.cells #[.string ((rd_T38 t171 (ji6)).f0), .int .i64 ((rd_T38 t171 (ji6)).f1), .int .i64 ((rd_T38 t171 (ji6)).f2)] 38 (0, 0))) := ⟨h3_⟩
                              have n4_ : Aside0 (w310.heap[gb206]? = some (.cells #[.int .i64 0, .int .i64 0] 27 (0, 0))) := ⟨h4_⟩
                              have n5_ : Aside0 (w.heap.size ≤ gb206) := ⟨h5_⟩
                              have n6_ : Aside0 (w.heap.size ≤ gb206) := ⟨h6_⟩
                              have n7_ : Aside0 (gb170 ≠ gb206) := ⟨h7_⟩
                              have n8_ : Aside0 (gb206 ≠ gb170) := ⟨h8_⟩
                              have n9_ : Aside0 (gb175 ≠ gb206) := ⟨h9_⟩
                              have n10_ : Aside0 (gb206 ≠ gb175) := ⟨h10_⟩
                              have n11_ : Aside0 (Below w.heap.size w w310) := ⟨h11_⟩
                              clear HO173
                              clear BK170
                              clear BK175
                              clear HB
                              clear h0_ h1_ h2_ h3_ h4_ h5_ h6_ h7_ h8_ h9_ h10_ h11_
                              have HO173 := n0_
                              have HO200 := n1_
                              have BK170 := n2_
                              have BK175 := n3_
                              have BK206 := n4_
                              have GW206 := n5_
                              have GE206 := n6_
                              have NB170_206 := n7_
                              have NB206_170 := n8_
                              have NB175_206 := n9_
                              have NB206_175 := n10_
                              have HB := n11_
                              clear n0_ n1_ n2_ n3_ n4_ n5_ n6_ n7_ n8_ n9_ n10_ n11_
                              have hHeld : w310.cell? ⟨gb175, 0, none⟩ = some (.string ((rd_T38 t171 (ji6)).f0)) ∧ w310.cell? ⟨gb175, 1, none⟩ = some (.int .i64 ((rd_T38 t171 (ji6)).f1)) ∧ w310.cell? ⟨gb175, 2, none⟩ = some (.int .i64 ((rd_T38 t171 (ji6)).f2)) ∧ w310.cell? ⟨gb170, 0, none⟩ = some (.int .i64 a2_0) ∧ w310.cell? ⟨gb170, 1, none⟩ = some (.int .i64 a2_1) := hS_
                              refine norm_ (a' := ?_) ?_ ?_
                              rotate_left
                              · simp only [putAll, Act.put, List.setIfInBounds_toArray, List.set_cons_zero, List.set_cons_succ]
                                rfl
                              refine one_ (i := 13) (N := some 12) #[true, true, true, true, true, true, true, true, true, true, true, true, true, true, false, false, false] rfl rfl (one_of HT_.out (by kernel_rfl)) (by decide) (fun K hK => ?_)
                              refine box_step ?hg (N := 12) ?hd (cs := #[.int .i64 0, .int .i64 0]) (t := 30) ?hr ?_; (case hd => rfl); (case hg => rfl); (case hr => first | (go_simp; done) | (go_simp; rfl))
                              intro gb207 hg w311 hbox hb
                              have n0_ := Aside0.mk (Kd.R_below (by (with_reducible repeat (first | apply Kd.R_alloc | apply Kd.R_drewN | apply Kd.R_drew)); exact HO173.out) hb)
                              have n1_ := Aside0.mk (MR.R_below (by (with_reducible repeat (first | apply MR.R_alloc | apply MR.R_drewN | apply MR.R_drew)); exact HO200.out) hb)
                              have n2_ := Aside0.mk (blk_below (g := gb170) (o := .cells #[.int .i64 a2_0, .int .i64 a2_1] 27 (0, 0)) (by (with_reducible repeat (first | refine blk_drewN ?_ _ | refine blk_drew ?_ | refine blk_alloc ?_ _)); exact BK170.out) hb)
                              have n3_ := Aside0.mk (blk_below (g := gb175) (o := .cells #[.string ((rd_T38 t171 (ji6)).f0), .int .i64 ((rd_T38 t171 (ji6)).f1), .int .i64 ((rd_T38 t171 (ji6)).f2)] 38 (0, 0)) (by (with_reducible repeat (first | refine blk_drewN ?_ _ | refine blk_drew ?_ | refine blk_alloc ?_ _)); exact BK175.out) hb)
                              have n4_ := Aside0.mk (blk_below (g := gb206) (o := .cells #[.int .i64 0, .int .i64 0] 27 (0, 0)) (by (with_reducible repeat (first | refine blk_drewN ?_ _ | refine blk_drew ?_ | refine blk_alloc ?_ _)); exact BK206.out) hb)
                              have n5_ := Aside0.mk (below_step (by repeat (first | (with_reducible first | exact HB.out | apply below_alloc | apply pw_below_drewN | apply below_drew1 | refine below_set ?_ GE170.out | refine below_set ?_ GE175.out | refine below_set ?_ GE206.out) | exact HB.out)) hb)
                              have n6_ := Aside0.mk (hbox)
                              have n7_ := Aside0.mk ((by rw [hg]; exact (below_size (by repeat (first | (with_reducible first | exact HB.out | apply below_alloc | apply pw_below_drewN | apply below_drew1 | refine below_set ?_ GE170.out | refine below_set ?_ GE175.out | refine below_set ?_ GE206.out) | exact HB.out))) : w.heap.size ≤ gb207))
                              have n8_ := Aside0.mk ((by rw [hg]; exact (below_size (by repeat (first | (with_reducible first | exact HB.out | apply below_alloc | apply pw_below_drewN | apply below_drew1 | refine below_set ?_ GE170.out | refine below_set ?_ GE175.out | refine below_set ?_ GE206.out) | exact HB.out))) : w.heap.size ≤ gb207))
                              have n9_ := Aside0.mk ((by rw [hg]; exact Nat.ne_of_lt (blk_lt (g := gb170) (o := .cells #[.int .i64 a2_0, .int .i64 a2_1] 27 (0, 0)) (by (with_reducible repeat (first | refine blk_drewN ?_ _ | refine blk_drew ?_ | refine blk_alloc ?_ _)); exact BK170.out)) : gb170 ≠ gb207))
                              have n10_ := Aside0.mk ((by rw [hg]; exact Nat.ne_of_gt (blk_lt (g := gb170) (o := .cells #[.int .i64 a2_0, .int .i64 a2_1] 27 (0, 0)) (by (with_reducible repeat (first | refine blk_drewN ?_ _ | refine blk_drew ?_ | refine blk_alloc ?_ _)); exact BK170.out)) : gb207 ≠ gb170))
                              have n11_ := Aside0.mk ((by rw [hg]; exact Nat.ne_of_lt (blk_lt (g := gb175) (o := .cells #[.string ((rd_T38 t171 (ji6)).f0), .int .i64 ((rd_T38 t171 (ji6)).f1), .int .i64 ((rd_T38 t171 (ji6)).f2)] 38 (0, 0)) (by (with_reducible repeat (first | refine blk_drewN ?_ _ | refine blk_drew ?_ | refine blk_alloc ?_ _)); exact BK175.out)) : gb175 ≠ gb207))
                              have n12_ := Aside0.mk ((by rw [hg]; exact Nat.ne_of_gt (blk_lt (g := gb175) (o := .cells #[.string ((rd_T38 t171 (ji6)).f0), .int .i64 ((rd_T38 t171 (ji6)).f1), .int .i64 ((rd_T38 t171 (ji6)).f2)] 38 (0, 0)) (by (with_reducible repeat (first | refine blk_drewN ?_ _ | refine blk_drew ?_ | refine blk_alloc ?_ _)); exact BK175.out)) : gb207 ≠ gb175))
                              have n13_ := Aside0.mk ((by rw [hg]; exact Nat.ne_of_lt (blk_lt (g := gb206) (o := .cells #[.int .i64 0, .int .i64 0] 27 (0, 0)) (by (with_reducible repeat (first | refine blk_drewN ?_ _ | refine blk_drew ?_ | refine blk_alloc ?_ _)); exact BK206.out)) : gb206 ≠ gb207))
                              have n14_ := Aside0.mk ((by rw [hg]; exact Nat.ne_of_gt (blk_lt (g := gb206) (o := .cells #[.int .i64 0, .int .i64 0] 27 (0, 0)) (by (with_reducible repeat (first | refine blk_drewN ?_ _ | refine blk_drew ?_ | refine blk_alloc ?_ _)); exact BK206.out)) : gb207 ≠ gb206))
                              clear HO173
                              clear HO200
                              clear BK170
                              clear BK175
                              clear BK206
                              clear HB
                              have HO173 := n0_
                              have HO200 := n1_
                              have BK170 := n2_
                              have BK175 := n3_
                              have BK206 := n4_
                              have HB := n5_
                              have BK207 := n6_
                              have GW207 := n7_
                              have GE207 := n8_
                              have NB170_207 := n9_
                              have NB207_170 := n10_
                              have NB175_207 := n11_
                              have NB207_175 := n12_
                              have NB206_207 := n13_
                              have NB207_206 := n14_
                              clear n0_ n1_ n2_ n3_ n4_ n5_ n6_ n7_ n8_ n9_ n10_ n11_ n12_ n13_ n14_
                              clear hb hbox hg
                              refine hK.out _ _ ⟨(blk_cell BK175.out 0).trans rfl, (blk_cell BK175.out 1).trans rfl, (blk_cell BK175.out 2).trans rfl, (blk_cell BK170.out 0).trans rfl, (blk_cell BK170.out 1).trans rfl⟩ (fun hHeld => ?_)
                              clear hK K
                              refine norm_ (a' := ?_) ?_ ?_
                              rotate_left
                              · show Act.put _ (some 12) _ = _
                                simp only [Act.put, List.setIfInBounds_toArray, List.set_cons_zero, List.set_cons_succ, i64_w, i32_w]
                                rfl
                              exact norm_ (by first | (simp only [putAll, Act.put, List.setIfInBounds_toArray, List.set_cons_zero, List.set_cons_succ]; done) | (simp only [putAll, Act.put, List.setIfInBounds_toArray, List.set_cons_zero, List.set_cons_succ]; rfl)) (hJ5_7_12_13 (v199, gb206, gb207) _ ⟨hHeld, (by (with_reducible repeat (first | apply Kd.R_alloc | apply Kd.R_drewN | apply Kd.R_drew)); exact HO173.out), (by (with_reducible repeat (first | apply MR.R_alloc | apply MR.R_drewN | apply MR.R_drew)); exact HO200.out), (by (with_reducible repeat (first | refine blk_drewN ?_ _ | refine blk_drew ?_ | refine blk_alloc ?_ _)); exact BK170.out), (by (with_reducible repeat (first | refine blk_drewN ?_ _ | refine blk_drew ?_ | refine blk_alloc ?_ _)); exact BK175.out), (by (with_reducible repeat (first | refine blk_drewN ?_ _ | refine blk_drew ?_ | refine blk_alloc ?_ _)); exact BK206.out), (by (with_reducible repeat (first | refine blk_drewN ?_ _ | refine blk_drew ?_ | refine blk_alloc ?_ _)); exact BK207.out), GW206.out, GE206.out, NB170_206.out, NB206_170.out, NB175_206.out, NB206_175.out, NB207_206.out, NB206_207.out, GW207.out, GE207.out, NB170_207.out, NB207_170.out, NB175_207.out, NB207_175.out, (by repeat (first | (with_reducible first | exact HB.out | apply below_alloc | apply pw_below_drewN | apply below_drew1 | refine below_set ?_ GE170.out | refine below_set ?_ GE175.out | refine below_set ?_ GE206.out | refine below_set ?_ GE207.out) | exact HB.out))⟩)
                          rintro ⟨v199, gb206, gb207⟩ w311 ⟨hS_, h0_, h1_, h2_, h3_, h4_, h5_, h6_, h7_, h8_, h9_, h10_, h11_, h12_, h13_, h14_, h15_, h16_, h17_, h18_, h19_, h20_⟩
                          have n0_ : Aside0 (Kd.R k38 38 w311 w.heap.size (fun k_ => k_ ≠ gb175) (.slice (some ad174) t171.length co299) t171) := ⟨h0_⟩
                          have n1_ : Aside0 (MR 5 w311 w.heap.size (fun _ => True) v199 y198) := ⟨h1_⟩
                          have n2_ : Aside0 (w311.heap[gb170]? = some (.cells #[.int .i64 a2_0, .int .i64 a2_1] 27 (0, 0))) := ⟨h2_⟩
                          have n3_ : Aside0 (w311.heap[gb175]? = some (.cells #[.string ((rd_T38 t171 (ji6)).f0), .int .i64 ((rd_T38 t171 (ji6)).f1), .int .i64 ((rd_T38 t171 (ji6)).f2)] 38 (0, 0))) := ⟨h3_⟩
                          have n4_ : Aside0 (w311.heap[gb206]? = some (.cells #[.int .i64 0, .int .i64 0] 27 (0, 0))) := ⟨h4_⟩
                          have n5_ : Aside0 (w311.heap[gb207]? = some (.cells #[.int .i64 0, .int .i64 0] 30 (0, 0))) := ⟨h5_⟩
                          have n6_ : Aside0 (w.heap.size ≤ gb206) := ⟨h6_⟩
                          have n7_ : Aside0 (w.heap.size ≤ gb206) := ⟨h7_⟩
                          have n8_ : Aside0 (gb170 ≠ gb206) := ⟨h8_⟩
                          have n9_ : Aside0 (gb206 ≠ gb170) := ⟨h9_⟩
                          have n10_ : Aside0 (gb175 ≠ gb206) := ⟨h10_⟩
                          have n11_ : Aside0 (gb206 ≠ gb175) := ⟨h11_⟩
                          have n12_ : Aside0 (gb207 ≠ gb206) := ⟨h12_⟩
                          have n13_ : Aside0 (gb206 ≠ gb207) := ⟨h13_⟩
                          have n14_ : Aside0 (w.heap.size ≤ gb207) := ⟨h14_⟩
                          have n15_ : Aside0 (w.heap.size ≤ gb207) := ⟨h15_⟩
                          have n16_ : Aside0 (gb170 ≠ gb207) := ⟨h16_⟩
                          have n17_ : Aside0 (gb207 ≠ gb170) := ⟨h17_⟩
                          have n18_ : Aside0 (gb175 ≠ gb207) := ⟨h18_⟩
                          have n19_ : Aside0 (gb207 ≠ gb175) := ⟨h19_⟩
                          have n20_ : Aside0 (Below w.heap.size w w311) := ⟨h20_⟩
                          clear HO173
                          clear BK170
                          clear BK175
                          clear HB
                          clear h0_ h1_ h2_ h3_ h4_ h5_ h6_ h7_ h8_ h9_ h10_ h11_ h12_ h13_ h14_ h15_ h16_ h17_ h18_ h19_ h20_
                          have HO173 := n0_
                          have HO200 := n1_
                          have BK170 := n2_
                          have BK175 := n3_
                          have BK206 := n4_
                          have BK207 := n5_
                          have GW206 := n6_
                          have GE206 := n7_
                          have NB170_206 := n8_
                          have NB206_170 := n9_
                          have NB175_206 := n10_
                          have NB206_175 := n11_
                          have NB207_206 := n12_
                          have NB206_207 := n13_
                          have GW207 := n14_
                          have GE207 := n15_
                          have NB170_207 := n16_
                          have NB207_170 := n17_
                          have NB175_207 := n18_
                          have NB207_175 := n19_
                          have HB := n20_
                          clear n0_ n1_ n2_ n3_ n4_ n5_ n6_ n7_ n8_ n9_ n10_ n11_ n12_ n13_ n14_ n15_ n16_ n17_ n18_ n19_ n20_
                          have hHeld : w311.cell? ⟨gb175, 0, none⟩ = some (.string ((rd_T38 t171 (ji6)).f0)) ∧ w311.cell? ⟨gb175, 1, none⟩ = some (.int .i64 ((rd_T38 t171 (ji6)).f1)) ∧ w311.cell? ⟨gb175, 2, none⟩ = some (.int .i64 ((rd_T38 t171 (ji6)).f2)) ∧ w311.cell? ⟨gb170, 0, none⟩ = some (.int .i64 a2_0) ∧ w311.cell? ⟨gb170, 1, none⟩ = some (.int .i64 a2_1) := hS_
                          refine norm_ (a' := ?_) ?_ ?_
                          rotate_left
                          · simp only [putAll, Act.put, List.setIfInBounds_toArray, List.set_cons_zero, List.set_cons_succ]
                            rfl
                          refine one_ (i := 14) (N := none) #[true, true, true, true, true, true, true, true, true, true, true, true, true, true, true, false, false] rfl rfl (one_of HT_.out (by kernel_rfl)) (by decide) (fun K hK => ?_)
                          have hs312 : w311.cell? ⟨gb206, 0, none⟩ = some (.int .i64 0) := (blk_cell BK206.out 0).trans rfl
                          have hfs312 := blk_frozen BK206.out 0
                          have hns312_0 := NB170_206.out
                          have hns312_1 := NB175_206.out
                          have hns312_3 := NB207_206.out
                          have hms312_0 := NB206_170.out
                          have hms312_1 := NB206_175.out
                          have hms312_3 := NB206_207.out
                          have hs313 : w311.cell? ⟨gb206, 1, none⟩ = some (.int .i64 0) := (blk_cell BK206.out 1).trans rfl
                          have hfs313 := blk_frozen BK206.out 1
                          have hns313_0 := NB170_206.out
                          have hns313_1 := NB175_206.out
                          have hns313_3 := NB207_206.out
                          have hms313_0 := NB206_170.out
                          have hms313_1 := NB206_175.out
                          have hms313_3 := NB206_207.out
                          refine skip_ (w1 := ?_) (by rfl) rfl ?_ ?_
                          rotate_left
                          · go_simp
                            rfl
                          refine hK.out _ _ ⟨((cell_far (p := ⟨gb206, _, none⟩) NB175_206.out _).trans (((cell_far (p := ⟨gb206, _, none⟩) NB175_206.out _).trans (hHeld.1)))), ((cell_far (p := ⟨gb206, _, none⟩) NB175_206.out _).trans (((cell_far (p := ⟨gb206, _, none⟩) NB175_206.out _).trans (hHeld.2.1)))), ((cell_far (p := ⟨gb206, _, none⟩) NB175_206.out _).trans (((cell_far (p := ⟨gb206, _, none⟩) NB175_206.out _).trans (hHeld.2.2.1)))), ((cell_far (p := ⟨gb206, _, none⟩) NB170_206.out _).trans (((cell_far (p := ⟨gb206, _, none⟩) NB170_206.out _).trans (hHeld.2.2.2.1)))), ((cell_far (p := ⟨gb206, _, none⟩) NB170_206.out _).trans (((cell_far (p := ⟨gb206, _, none⟩) NB170_206.out _).trans (hHeld.2.2.2.2))))⟩ (fun hHeld => ?_)
                          clear hK K
                          refine pure_ (i := 15) (N := some 11) (v := ?_) (a' := ?_) #[true, true, true, true, true, true, true, true, true, true, true, true, true, true, true, true, false] rfl rfl (any_of HT_.out (by kernel_rfl)) (fun _ _ _ h => h) (Or.inl ⟨by rfl, ?_⟩) ?_ ?_
                          rotate_left
                          · intro w'
                            go_simp
                            with_reducible rfl
                          rotate_left
                          · simp only [Act.put, List.setIfInBounds_toArray, List.set_cons_zero, List.set_cons_succ, i64_w, i32_w]
                            rfl
                          refine one_ (i := 16) (N := none) #[true, true, true, true, true, true, true, true, true, true, true, true, true, true, true, true, true] rfl rfl (one_of HT_.out (by kernel_rfl)) (by decide) (fun K hK => ?_)
                          have hs314 : w311.cell? ⟨gb207, 0, none⟩ = some (.int .i64 0) := (blk_cell BK207.out 0).trans rfl
                          have hfs314 := blk_frozen BK207.out 0
                          have hns314_0 := NB170_207.out
                          have hns314_1 := NB175_207.out
                          have hns314_2 := NB206_207.out
                          have hms314_0 := NB207_170.out
                          have hms314_1 := NB207_175.out
                          have hms314_2 := NB207_206.out
                          have hs315 : w311.cell? ⟨gb207, 1, none⟩ = some (.int .i64 0) := (blk_cell BK207.out 1).trans rfl
                          have hfs315 := blk_frozen BK207.out 1
                          have hns315_0 := NB170_207.out
                          have hns315_1 := NB175_207.out
                          have hns315_2 := NB206_207.out
                          have hms315_0 := NB207_170.out
                          have hms315_1 := NB207_175.out
                          have hms315_2 := NB207_206.out
                          refine skip_ (w1 := ?_) (by rfl) rfl ?_ ?_
                          rotate_left
                          · go_simp
                            rfl
                          refine hK.out _ _ ⟨((cell_far (p := ⟨gb207, _, none⟩) NB175_207.out _).trans (((cell_far (p := ⟨gb207, _, none⟩) NB175_207.out _).trans (hHeld.1)))), ((cell_far (p := ⟨gb207, _, none⟩) NB175_207.out _).trans (((cell_far (p := ⟨gb207, _, none⟩) NB175_207.out _).trans (hHeld.2.1)))), ((cell_far (p := ⟨gb207, _, none⟩) NB175_207.out _).trans (((cell_far (p := ⟨gb207, _, none⟩) NB175_207.out _).trans (hHeld.2.2.1)))), ((cell_far (p := ⟨gb207, _, none⟩) NB170_207.out _).trans (((cell_far (p := ⟨gb207, _, none⟩) NB170_207.out _).trans (hHeld.2.2.2.1)))), ((cell_far (p := ⟨gb207, _, none⟩) NB170_207.out _).trans (((cell_far (p := ⟨gb207, _, none⟩) NB170_207.out _).trans (hHeld.2.2.2.2))))⟩ (fun hHeld => ?_)
                          clear hK K
                          refine done_ (done_of HT_.out (by kernel_rfl)) ?_
                          have hnb316 := NB175_206.out
                          have hnc316 := NB206_175.out
                          have hnb317 := NB175_207.out
                          have hnc317 := NB207_175.out
                          have hcz318_0 : w311.cell? ⟨gb175, 0, none⟩ = some (.string ((rd_T38 t171 (ji6)).f0)) := (blk_cell BK175.out 0).trans rfl
                          have hcz318_1 : w311.cell? ⟨gb175, 1, none⟩ = some (.int .i64 ((rd_T38 t171 (ji6)).f1)) := (blk_cell BK175.out 1).trans rfl
                          have hcz318_2 : w311.cell? ⟨gb175, 2, none⟩ = some (.int .i64 ((rd_T38 t171 (ji6)).f2)) := (blk_cell BK175.out 2).trans rfl
                          have hfz318_0 := blk_frozen BK175.out 0
                          have hfz318_1 := blk_frozen BK175.out 1
                          have hfz318_2 := blk_frozen BK175.out 2
                          try go_wp2_with (first | ((with_reducible refine gate_dst (N := 49) rfl ?_); refine MR.lit (ok := fun _ => True) ((rd_T38 t171 (ji6)).f0) y208 Ny208.out SBy208 5 ?hg (N := 49) ?hd ?hr trivial ?_; (case hd => rfl); (case hg => rfl); (case hr => first | (go_simp; done) | (go_simp; rfl)); intro v209 w319 ho320 hb hg_ hnew_; clear hg_ hnew_; skip; have n0_ := Aside0.mk (Kd.R_below (by (with_reducible repeat (first | apply Kd.R_alloc | apply Kd.R_drewN | apply Kd.R_drew)); exact (Kd.R_mono (Kd.R_mono (Kd.R_far (p := ⟨gb207, 1, none⟩) (Kd.R_far (p := ⟨gb207, 0, none⟩) (Kd.R_far (p := ⟨gb206, 1, none⟩) (Kd.R_far (p := ⟨gb206, 0, none⟩) (Kd.R_types (Kd.R_types HO173.out BK206.out (by decide)) BK207.out (by decide)) (fun _ hk => hk.1.2) (.int .i64 t201)) (fun _ hk => hk.1.2) (.int .i64 t202)) (fun _ hk => hk.2) (.int .i64 t204)) (fun _ hk => hk.2) (.int .i64 t205)) (fun _ h_ => h_.1)) (fun _ h_ => h_.1))) hb); have n1_ := Aside0.mk (MR.R_elder' (by (with_reducible repeat (first | apply MR.R_alloc | apply MR.R_drewN | apply MR.R_drew)); exact (MR.R_mono (MR.R_mono (MR.R_far (p := ⟨gb207, 1, none⟩) (MR.R_far (p := ⟨gb207, 0, none⟩) (MR.R_far (p := ⟨gb206, 1, none⟩) (MR.R_far (p := ⟨gb206, 0, none⟩) (MR.R_types (MR.R_types HO200.out BK206.out (by decide)) BK207.out (by decide)) (fun _ hk => hk.1.2) (.int .i64 t201)) (fun _ hk => hk.1.2) (.int .i64 t202)) (fun _ hk => hk.2) (.int .i64 t204)) (fun _ hk => hk.2) (.int .i64 t205)) (fun _ h_ => h_.1)) (fun _ h_ => h_.1))) (MR.R_base ho320) hb); have n2_ := Aside0.mk (MR.R_lower (MR.R_new' ho320 (MR.R_lt (by (with_reducible repeat (first | apply MR.R_alloc | apply MR.R_drewN | apply MR.R_drew)); exact (MR.R_mono (MR.R_mono (MR.R_far (p := ⟨gb207, 1, none⟩) (MR.R_far (p := ⟨gb207, 0, none⟩) (MR.R_far (p := ⟨gb206, 1, none⟩) (MR.R_far (p := ⟨gb206, 0, none⟩) (MR.R_types (MR.R_types HO200.out BK206.out (by decide)) BK207.out (by decide)) (fun _ hk => hk.1.2) (.int .i64 t201)) (fun _ hk => hk.1.2) (.int .i64 t202)) (fun _ hk => hk.2) (.int .i64 t204)) (fun _ hk => hk.2) (.int .i64 t205)) (fun _ h_ => h_.1)) (fun _ h_ => h_.1))))) (below_size (by repeat (first | (with_reducible first | exact HB.out | apply below_alloc | apply pw_below_drewN | apply below_drew1 | refine below_set ?_ GE170.out | refine below_set ?_ GE175.out | refine below_set ?_ GE206.out | refine below_set ?_ GE207.out) | exact HB.out)))); have n3_ := Aside0.mk (blk_below (g := gb170) (o := .cells #[.int .i64 a2_0, .int .i64 a2_1] 27 (0, 0)) (by (with_reducible repeat (first | refine blk_drewN ?_ _ | refine blk_drew ?_ | refine blk_alloc ?_ _)); refine blk_far ?_ NB170_207.out _; (with_reducible repeat (first | refine blk_drewN ?_ _ | refine blk_drew ?_ | refine blk_alloc ?_ _)); refine blk_far ?_ NB170_207.out _; (with_reducible repeat (first | refine blk_drewN ?_ _ | refine blk_drew ?_ | refine blk_alloc ?_ _)); refine blk_far ?_ NB170_206.out _; (with_reducible repeat (first | refine blk_drewN ?_ _ | refine blk_drew ?_ | refine blk_alloc ?_ _)); refine blk_far ?_ NB170_206.out _; (with_reducible repeat (first | refine blk_drewN ?_ _ | refine blk_drew ?_ | refine blk_alloc ?_ _)); exact BK170.out) hb); have n4_ := Aside0.mk (blk_below (g := gb175) (o := .cells #[.string ((rd_T38 t171 (ji6)).f0), .int .i64 ((rd_T38 t171 (ji6)).f1), .int .i64 ((rd_T38 t171 (ji6)).f2)] 38 (0, 0)) (by (with_reducible repeat (first | refine blk_drewN ?_ _ | refine blk_drew ?_ | refine blk_alloc ?_ _)); refine blk_far ?_ NB175_207.out _; (with_reducible repeat (first | refine blk_drewN ?_ _ | refine blk_drew ?_ | refine blk_alloc ?_ _)); refine blk_far ?_ NB175_207.out _; (with_reducible repeat (first | refine blk_drewN ?_ _ | refine blk_drew ?_ | refine blk_alloc ?_ _)); refine blk_far ?_ NB175_206.out _; (with_reducible repeat (first | refine blk_drewN ?_ _ | refine blk_drew ?_ | refine blk_alloc ?_ _)); refine blk_far ?_ NB175_206.out _; (with_reducible repeat (first | refine blk_drewN ?_ _ | refine blk_drew ?_ | refine blk_alloc ?_ _)); exact BK175.out) hb); have n5_ := Aside0.mk (blk_below (g := gb206) (o := .cells #[.int .i64 t201, .int .i64 t202] 27 (0, 0)) (by (with_reducible repeat (first | refine blk_drewN ?_ _ | refine blk_drew ?_ | refine blk_alloc ?_ _)); refine blk_far ?_ NB206_207.out _; (with_reducible repeat (first | refine blk_drewN ?_ _ | refine blk_drew ?_ | refine blk_alloc ?_ _)); refine blk_far ?_ NB206_207.out _; (with_reducible repeat (first | refine blk_drewN ?_ _ | refine blk_drew ?_ | refine blk_alloc ?_ _)); refine blk_put (cs := #[.int .i64 t201, .int .i64 0]) ?_ 1 _ rfl; (with_reducible repeat (first | refine blk_drewN ?_ _ | refine blk_drew ?_ | refine blk_alloc ?_ _)); refine blk_put (cs := #[.int .i64 0, .int .i64 0]) ?_ 0 _ rfl; (with_reducible repeat (first | refine blk_drewN ?_ _ | refine blk_drew ?_ | refine blk_alloc ?_ _)); exact BK206.out) hb); have n6_ := Aside0.mk (blk_below (g := gb207) (o := .cells #[.int .i64 t204, .int .i64 t205] 30 (0, 0)) (by (with_reducible repeat (first | refine blk_drewN ?_ _ | refine blk_drew ?_ | refine blk_alloc ?_ _)); refine blk_put (cs := #[.int .i64 t204, .int .i64 0]) ?_ 1 _ rfl; (with_reducible repeat (first | refine blk_drewN ?_ _ | refine blk_drew ?_ | refine blk_alloc ?_ _)); refine blk_put (cs := #[.int .i64 0, .int .i64 0]) ?_ 0 _ rfl; (with_reducible repeat (first | refine blk_drewN ?_ _ | refine blk_drew ?_ | refine blk_alloc ?_ _)); refine blk_far ?_ NB207_206.out _; (with_reducible repeat (first | refine blk_drewN ?_ _ | refine blk_drew ?_ | refine blk_alloc ?_ _)); refine blk_far ?_ NB207_206.out _; (with_reducible repeat (first | refine blk_drewN ?_ _ | refine blk_drew ?_ | refine blk_alloc ?_ _)); exact BK207.out) hb); have n7_ := Aside0.mk (below_step (by repeat (first | (with_reducible first | exact HB.out | apply below_alloc | apply pw_below_drewN | apply below_drew1 | refine below_set ?_ GE170.out | refine below_set ?_ GE175.out | refine below_set ?_ GE206.out | refine below_set ?_ GE207.out) | exact HB.out)) hb); clear HO173; clear HO200; clear BK170; clear BK175; clear BK206; clear BK207; clear HB; have HO173 := n0_; have HO200 := n1_; have HO210 := n2_; have BK170 := n3_; have BK175 := n4_; have BK206 := n5_; have BK207 := n6_; have HB := n7_; clear n0_ n1_ n2_ n3_ n4_ n5_ n6_ n7_; clear hb ho320; have hnb321 := NB170_206.out; have hnc321 := NB206_170.out; have hnb322 := NB170_207.out; have hnc322 := NB207_170.out; have hcz323_0 : w319.cell? ⟨gb170, 0, none⟩ = some (.int .i64 a2_0) := (blk_cell BK170.out 0).trans rfl; have hcz323_1 : w319.cell? ⟨gb170, 1, none⟩ = some (.int .i64 a2_1) := (blk_cell BK170.out 1).trans rfl; have hfz323_0 := blk_frozen BK170.out 0; have hfz323_1 := blk_frozen BK170.out 1; obtain ⟨Ao324, co324, eo324⟩ := MR.R_slice HO210.out; subst eo324) | ((with_reducible refine gate_callee (f := 23) rfl ?_); refine goesL_ (some 51) rfl rfl Try.func23 (by kernel_rfl) rfl #[.slice Ao324 y208.length co324, .int .i64 1, .agg #[.int .i64 a2_0, .int .i64 a2_1]] rfl (by (try simp only [List.map_toArray, List.map_cons, List.map_nil]); first | done | rfl | (simp only [List.length_drop, List.length_take]; rfl)) ?_; (with_reducible refine (escape_Next.calls k _ _ y208 1 a2_0 a2_1 t211 t212 t213 t214 t215 _ ?side1 ?side2 A291.out).mono ?_); (case side1 => repeat (first | exact (MR.R_reads' HO210.out).2.2 | (with_reducible refine Kd.C_alloc ?_ _) | (with_reducible refine Kd.C_drewN ?_ _) | (with_reducible refine Kd.C_drew ?_))); (case side2 => exact (MR.R_reads' HO210.out).2.1); rintro e w325 ⟨rfl, hb⟩; refine ⟨_, rfl, ?_⟩; have n0_ := Aside0.mk (Kd.R_below (by (with_reducible repeat (first | apply Kd.R_alloc | apply Kd.R_drewN | apply Kd.R_drew)); exact HO173.out) hb); have n1_ := Aside0.mk (MR.R_below (by (with_reducible repeat (first | apply MR.R_alloc | apply MR.R_drewN | apply MR.R_drew)); exact HO200.out) hb); have n2_ := Aside0.mk (MR.R_below (by (with_reducible repeat (first | apply MR.R_alloc | apply MR.R_drewN | apply MR.R_drew)); exact HO210.out) hb); have n3_ := Aside0.mk (blk_below (g := gb170) (o := .cells #[.int .i64 a2_0, .int .i64 a2_1] 27 (0, 0)) (by (with_reducible repeat (first | refine blk_drewN ?_ _ | refine blk_drew ?_ | refine blk_alloc ?_ _)); exact BK170.out) hb); have n4_ := Aside0.mk (blk_below (g := gb175) (o := .cells #[.string ((rd_T38 t171 (ji6)).f0), .int .i64 ((rd_T38 t171 (ji6)).f1), .int .i64 ((rd_T38 t171 (ji6)).f2)] 38 (0, 0)) (by (with_reducible repeat (first | refine blk_drewN ?_ _ | refine blk_drew ?_ | refine blk_alloc ?_ _)); exact BK175.out) hb); have n5_ := Aside0.mk (blk_below (g := gb206) (o := .cells #[.int .i64 t201, .int .i64 t202] 27 (0, 0)) (by (with_reducible repeat (first | refine blk_drewN ?_ _ | refine blk_drew ?_ | refine blk_alloc ?_ _)); exact BK206.out) hb); have n6_ := Aside0.mk (blk_below (g := gb207) (o := .cells #[.int .i64 t204, .int .i64 t205] 30 (0, 0)) (by (with_reducible repeat (first | refine blk_drewN ?_ _ | refine blk_drew ?_ | refine blk_alloc ?_ _)); exact BK207.out) hb); have n7_ := Aside0.mk (below_step (by repeat (first | (with_reducible first | exact HB.out | apply below_alloc | apply pw_below_drewN | apply below_drew1 | refine below_set ?_ GE170.out | refine below_set ?_ GE175.out | refine below_set ?_ GE206.out | refine below_set ?_ GE207.out) | exact HB.out)) hb); clear HO173; clear HO200; clear HO210; clear BK170; clear BK175; clear BK206; clear BK207; clear HB; have HO173 := n0_; have HO200 := n1_; have HO210 := n2_; have BK170 := n3_; have BK175 := n4_; have BK206 := n5_; have BK207 := n6_; have HB := n7_; clear n0_ n1_ n2_ n3_ n4_ n5_ n6_ n7_; (try clear hb); (try clear hb2); (try clear hk); (try clear hi)) | ((with_reducible refine gate_dst (N := 13) rfl ?_); refine box_event ?hg (N := 13) ?hd (cs := #[.int .i64 0, .int .i64 0]) (t := 27) ?hr ?_; (case hd => rfl); (case hg => rfl); (case hr => first | (go_simp; done) | (go_simp; rfl)); intro gb216 hg w326 hbox hb; have n0_ := Aside0.mk (Kd.R_below (by (with_reducible repeat (first | apply Kd.R_alloc | apply Kd.R_drewN | apply Kd.R_drew)); exact HO173.out) hb); have n1_ := Aside0.mk (MR.R_below (by (with_reducible repeat (first | apply MR.R_alloc | apply MR.R_drewN | apply MR.R_drew)); exact HO200.out) hb); have n2_ := Aside0.mk (MR.R_below (by (with_reducible repeat (first | apply MR.R_alloc | apply MR.R_drewN | apply MR.R_drew)); exact HO210.out) hb); have n3_ := Aside0.mk (blk_below (g := gb170) (o := .cells #[.int .i64 a2_0, .int .i64 a2_1] 27 (0, 0)) (by (with_reducible repeat (first | refine blk_drewN ?_ _ | refine blk_drew ?_ | refine blk_alloc ?_ _)); exact BK170.out) hb); have n4_ := Aside0.mk (blk_below (g := gb175) (o := .cells #[.string ((rd_T38 t171 (ji6)).f0), .int .i64 ((rd_T38 t171 (ji6)).f1), .int .i64 ((rd_T38 t171 (ji6)).f2)] 38 (0, 0)) (by (with_reducible repeat (first | refine blk_drewN ?_ _ | refine blk_drew ?_ | refine blk_alloc ?_ _)); exact BK175.out) hb); have n5_ := Aside0.mk (blk_below (g := gb206) (o := .cells #[.int .i64 t201, .int .i64 t202] 27 (0, 0)) (by (with_reducible repeat (first | refine blk_drewN ?_ _ | refine blk_drew ?_ | refine blk_alloc ?_ _)); exact BK206.out) hb); have n6_ := Aside0.mk (blk_below (g := gb207) (o := .cells #[.int .i64 t204, .int .i64 t205] 30 (0, 0)) (by (with_reducible repeat (first | refine blk_drewN ?_ _ | refine blk_drew ?_ | refine blk_alloc ?_ _)); exact BK207.out) hb); have n7_ := Aside0.mk (below_step (by repeat (first | (with_reducible first | exact HB.out | apply below_alloc | apply pw_below_drewN | apply below_drew1 | refine below_set ?_ GE170.out | refine below_set ?_ GE175.out | refine below_set ?_ GE206.out | refine below_set ?_ GE207.out) | exact HB.out)) hb); have n8_ := Aside0.mk (hbox); have n9_ := Aside0.mk ((by rw [hg]; exact (below_size (by repeat (first | (with_reducible first | exact HB.out | apply below_alloc | apply pw_below_drewN | apply below_drew1 | refine below_set ?_ GE170.out | refine below_set ?_ GE175.out | refine below_set ?_ GE206.out | refine below_set ?_ GE207.out) | exact HB.out))) : w.heap.size ≤ gb216)); have n10_ := Aside0.mk ((by rw [hg]; exact (below_size (by repeat (first | (with_reducible first | exact HB.out | apply below_alloc | apply pw_below_drewN | apply below_drew1 | refine below_set ?_ GE170.out | refine below_set ?_ GE175.out | refine below_set ?_ GE206.out | refine below_set ?_ GE207.out) | exact HB.out))) : w.heap.size ≤ gb216)); have n11_ := Aside0.mk ((by rw [hg]; exact Nat.ne_of_lt (blk_lt (g := gb170) (o := .cells #[.int .i64 a2_0, .int .i64 a2_1] 27 (0, 0)) (by (with_reducible repeat (first | refine blk_drewN ?_ _ | refine blk_drew ?_ | refine blk_alloc ?_ _)); exact BK170.out)) : gb170 ≠ gb216)); have n12_ := Aside0.mk ((by rw [hg]; exact Nat.ne_of_gt (blk_lt (g := gb170) (o := .cells #[.int .i64 a2_0, .int .i64 a2_1] 27 (0, 0)) (by (with_reducible repeat (first | refine blk_drewN ?_ _ | refine blk_drew ?_ | refine blk_alloc ?_ _)); exact BK170.out)) : gb216 ≠ gb170)); have n13_ := Aside0.mk ((by rw [hg]; exact Nat.ne_of_lt (blk_lt (g := gb175) (o := .cells #[.string ((rd_T38 t171 (ji6)).f0), .int .i64 ((rd_T38 t171 (ji6)).f1), .int .i64 ((rd_T38 t171 (ji6)).f2)] 38 (0, 0)) (by (with_reducible repeat (first | refine blk_drewN ?_ _ | refine blk_drew ?_ | refine blk_alloc ?_ _)); exact BK175.out)) : gb175 ≠ gb216)); have n14_ := Aside0.mk ((by rw [hg]; exact Nat.ne_of_gt (blk_lt (g := gb175) (o := .cells #[.string ((rd_T38 t171 (ji6)).f0), .int .i64 ((rd_T38 t171 (ji6)).f1), .int .i64 ((rd_T38 t171 (ji6)).f2)] 38 (0, 0)) (by (with_reducible repeat (first | refine blk_drewN ?_ _ | refine blk_drew ?_ | refine blk_alloc ?_ _)); exact BK175.out)) : gb216 ≠ gb175)); have n15_ := Aside0.mk ((by rw [hg]; exact Nat.ne_of_lt (blk_lt (g := gb206) (o := .cells #[.int .i64 t201, .int .i64 t202] 27 (0, 0)) (by (with_reducible repeat (first | refine blk_drewN ?_ _ | refine blk_drew ?_ | refine blk_alloc ?_ _)); exact BK206.out)) : gb206 ≠ gb216)); have n16_ := Aside0.mk ((by rw [hg]; exact Nat.ne_of_gt (blk_lt (g := gb206) (o := .cells #[.int .i64 t201, .int .i64 t202] 27 (0, 0)) (by (with_reducible repeat (first | refine blk_drewN ?_ _ | refine blk_drew ?_ | refine blk_alloc ?_ _)); exact BK206.out)) : gb216 ≠ gb206)); have n17_ := Aside0.mk ((by rw [hg]; exact Nat.ne_of_lt (blk_lt (g := gb207) (o := .cells #[.int .i64 t204, .int .i64 t205] 30 (0, 0)) (by (with_reducible repeat (first | refine blk_drewN ?_ _ | refine blk_drew ?_ | refine blk_alloc ?_ _)); exact BK207.out)) : gb207 ≠ gb216)); have n18_ := Aside0.mk ((by rw [hg]; exact Nat.ne_of_gt (blk_lt (g := gb207) (o := .cells #[.int .i64 t204, .int .i64 t205] 30 (0, 0)) (by (with_reducible repeat (first | refine blk_drewN ?_ _ | refine blk_drew ?_ | refine blk_alloc ?_ _)); exact BK207.out)) : gb216 ≠ gb207)); clear HO173; clear HO200; clear HO210; clear BK170; clear BK175; clear BK206; clear BK207; clear HB; have HO173 := n0_; have HO200 := n1_; have HO210 := n2_; have BK170 := n3_; have BK175 := n4_; have BK206 := n5_; have BK207 := n6_; have HB := n7_; have BK216 := n8_; have GW216 := n9_; have GE216 := n10_; have NB170_216 := n11_; have NB216_170 := n12_; have NB175_216 := n13_; have NB216_175 := n14_; have NB206_216 := n15_; have NB216_206 := n16_; have NB207_216 := n17_; have NB216_207 := n18_; clear n0_ n1_ n2_ n3_ n4_ n5_ n6_ n7_ n8_ n9_ n10_ n11_ n12_ n13_ n14_ n15_ n16_ n17_ n18_; clear hb hbox hg) | ((with_reducible refine gate_dst (N := 15) rfl ?_); refine box_event ?hg (N := 15) ?hd (cs := #[.int .i64 0, .int .i64 0]) (t := 30) ?hr ?_; (case hd => rfl); (case hg => rfl); (case hr => first | (go_simp; done) | (go_simp; rfl)); intro gb217 hg w327 hbox hb; have n0_ := Aside0.mk (Kd.R_below (by (with_reducible repeat (first | apply Kd.R_alloc | apply Kd.R_drewN | apply Kd.R_drew)); exact HO173.out) hb); have n1_ := Aside0.mk (MR.R_below (by (with_reducible repeat (first | apply MR.R_alloc | apply MR.R_drewN | apply MR.R_drew)); exact HO200.out) hb); have n2_ := Aside0.mk (MR.R_below (by (with_reducible repeat (first | apply MR.R_alloc | apply MR.R_drewN | apply MR.R_drew)); exact HO210.out) hb); have n3_ := Aside0.mk (blk_below (g := gb170) (o := .cells #[.int .i64 a2_0, .int .i64 a2_1] 27 (0, 0)) (by (with_reducible repeat (first | refine blk_drewN ?_ _ | refine blk_drew ?_ | refine blk_alloc ?_ _)); exact BK170.out) hb); have n4_ := Aside0.mk (blk_below (g := gb175) (o := .cells #[.string ((rd_T38 t171 (ji6)).f0), .int .i64 ((rd_T38 t171 (ji6)).f1), .int .i64 ((rd_T38 t171 (ji6)).f2)] 38 (0, 0)) (by (with_reducible repeat (first | refine blk_drewN ?_ _ | refine blk_drew ?_ | refine blk_alloc ?_ _)); exact BK175.out) hb); have n5_ := Aside0.mk (blk_below (g := gb206) (o := .cells #[.int .i64 t201, .int .i64 t202] 27 (0, 0)) (by (with_reducible repeat (first | refine blk_drewN ?_ _ | refine blk_drew ?_ | refine blk_alloc ?_ _)); exact BK206.out) hb); have n6_ := Aside0.mk (blk_below (g := gb207) (o := .cells #[.int .i64 t204, .int .i64 t205] 30 (0, 0)) (by (with_reducible repeat (first | refine blk_drewN ?_ _ | refine blk_drew ?_ | refine blk_alloc ?_ _)); exact BK207.out) hb); have n7_ := Aside0.mk (blk_below (g := gb216) (o := .cells #[.int .i64 0, .int .i64 0] 27 (0, 0)) (by (with_reducible repeat (first | refine blk_drewN ?_ _ | refine blk_drew ?_ | refine blk_alloc ?_ _)); exact BK216.out) hb); have n8_ := Aside0.mk (below_step (by repeat (first | (with_reducible first | exact HB.out | apply below_alloc | apply pw_below_drewN | apply below_drew1 | refine below_set ?_ GE170.out | refine below_set ?_ GE175.out | refine below_set ?_ GE206.out | refine below_set ?_ GE207.out | refine below_set ?_ GE216.out) | exact HB.out)) hb); have n9_ := Aside0.mk (hbox); have n10_ := Aside0.mk ((by rw [hg]; exact (below_size (by repeat (first | (with_reducible first | exact HB.out | apply below_alloc | apply pw_below_drewN | apply below_drew1 | refine below_set ?_ GE170.out | refine below_set ?_ GE175.out | refine below_set ?_ GE206.out | refine below_set ?_ GE207.out | refine below_set ?_ GE216.out) | exact HB.out))) : w.heap.size ≤ gb217)); have n11_ := Aside0.mk ((by rw [hg]; exact (below_size (by repeat (first | (with_reducible first | exact HB.out | apply below_alloc | apply pw_below_drewN | apply below_drew1 | refine below_set ?_ GE170.out | refine below_set ?_ GE175.out | refine below_set ?_ GE206.out | refine below_set ?_ GE207.out | refine below_set ?_ GE216.out) | exact HB.out))) : w.heap.size ≤ gb217)); have n12_ := Aside0.mk ((by rw [hg]; exact Nat.ne_of_lt (blk_lt (g := gb170) (o := .cells #[.int .i64 a2_0, .int .i64 a2_1] 27 (0, 0)) (by (with_reducible repeat (first | refine blk_drewN ?_ _ | refine blk_drew ?_ | refine blk_alloc ?_ _)); exact BK170.out)) : gb170 ≠ gb217)); have n13_ := Aside0.mk ((by rw [hg]; exact Nat.ne_of_gt (blk_lt (g := gb170) (o := .cells #[.int .i64 a2_0, .int .i64 a2_1] 27 (0, 0)) (by (with_reducible repeat (first | refine blk_drewN ?_ _ | refine blk_drew ?_ | refine blk_alloc ?_ _)); exact BK170.out)) : gb217 ≠ gb170)); have n14_ := Aside0.mk ((by rw [hg]; exact Nat.ne_of_lt (blk_lt (g := gb175) (o := .cells #[.string ((rd_T38 t171 (ji6)).f0), .int .i64 ((rd_T38 t171 (ji6)).f1), .int .i64 ((rd_T38 t171 (ji6)).f2)] 38 (0, 0)) (by (with_reducible repeat (first | refine blk_drewN ?_ _ | refine blk_drew ?_ | refine blk_alloc ?_ _)); exact BK175.out)) : gb175 ≠ gb217)); have n15_ := Aside0.mk ((by rw [hg]; exact Nat.ne_of_gt (blk_lt (g := gb175) (o := .cells #[.string ((rd_T38 t171 (ji6)).f0), .int .i64 ((rd_T38 t171 (ji6)).f1), .int .i64 ((rd_T38 t171 (ji6)).f2)] 38 (0, 0)) (by (with_reducible repeat (first | refine blk_drewN ?_ _ | refine blk_drew ?_ | refine blk_alloc ?_ _)); exact BK175.out)) : gb217 ≠ gb175)); have n16_ := Aside0.mk ((by rw [hg]; exact Nat.ne_of_lt (blk_lt (g := gb206) (o := .cells #[.int .i64 t201, .int .i64 t202] 27 (0, 0)) (by (with_reducible repeat (first | refine blk_drewN ?_ _ | refine blk_drew ?_ | refine blk_alloc ?_ _)); exact BK206.out)) : gb206 ≠ gb217)); have n17_ := Aside0.mk ((by rw [hg]; exact Nat.ne_of_gt (blk_lt (g := gb206) (o := .cells #[.int .i64 t201, .int .i64 t202] 27 (0, 0)) (by (with_reducible repeat (first | refine blk_drewN ?_ _ | refine blk_drew ?_ | refine blk_alloc ?_ _)); exact BK206.out)) : gb217 ≠ gb206)); have n18_ := Aside0.mk ((by rw [hg]; exact Nat.ne_of_lt (blk_lt (g := gb207) (o := .cells #[.int .i64 t204, .int .i64 t205] 30 (0, 0)) (by (with_reducible repeat (first | refine blk_drewN ?_ _ | refine blk_drew ?_ | refine blk_alloc ?_ _)); exact BK207.out)) : gb207 ≠ gb217)); have n19_ := Aside0.mk ((by rw [hg]; exact Nat.ne_of_gt (blk_lt (g := gb207) (o := .cells #[.int .i64 t204, .int .i64 t205] 30 (0, 0)) (by (with_reducible repeat (first | refine blk_drewN ?_ _ | refine blk_drew ?_ | refine blk_alloc ?_ _)); exact BK207.out)) : gb217 ≠ gb207)); have n20_ := Aside0.mk ((by rw [hg]; exact Nat.ne_of_lt (blk_lt (g := gb216) (o := .cells #[.int .i64 0, .int .i64 0] 27 (0, 0)) (by (with_reducible repeat (first | refine blk_drewN ?_ _ | refine blk_drew ?_ | refine blk_alloc ?_ _)); exact BK216.out)) : gb216 ≠ gb217)); have n21_ := Aside0.mk ((by rw [hg]; exact Nat.ne_of_gt (blk_lt (g := gb216) (o := .cells #[.int .i64 0, .int .i64 0] 27 (0, 0)) (by (with_reducible repeat (first | refine blk_drewN ?_ _ | refine blk_drew ?_ | refine blk_alloc ?_ _)); exact BK216.out)) : gb217 ≠ gb216)); clear HO173; clear HO200; clear HO210; clear BK170; clear BK175; clear BK206; clear BK207; clear BK216; clear HB; have HO173 := n0_; have HO200 := n1_; have HO210 := n2_; have BK170 := n3_; have BK175 := n4_; have BK206 := n5_; have BK207 := n6_; have BK216 := n7_; have HB := n8_; have BK217 := n9_; have GW217 := n10_; have GE217 := n11_; have NB170_217 := n12_; have NB217_170 := n13_; have NB175_217 := n14_; have NB217_175 := n15_; have NB206_217 := n16_; have NB217_206 := n17_; have NB207_217 := n18_; have NB217_207 := n19_; have NB216_217 := n20_; have NB217_216 := n21_; clear n0_ n1_ n2_ n3_ n4_ n5_ n6_ n7_ n8_ n9_ n10_ n11_ n12_ n13_ n14_ n15_ n16_ n17_ n18_ n19_ n20_ n21_; clear hb hbox hg; have hnb328 := NB216_170.out; have hnc328 := NB170_216.out; have hnb329 := NB216_175.out; have hnc329 := NB175_216.out; have hnb330 := NB216_206.out; have hnc330 := NB206_216.out; have hnb331 := NB216_207.out; have hnc331 := NB207_216.out; have hnb332 := NB216_217.out; have hnc332 := NB217_216.out; have hcz333_0 : w327.cell? ⟨gb216, 0, none⟩ = some (.int .i64 0) := (blk_cell BK216.out 0).trans rfl; have hcz333_1 : w327.cell? ⟨gb216, 1, none⟩ = some (.int .i64 0) := (blk_cell BK216.out 1).trans rfl; have hfz333_0 := blk_frozen BK216.out 0; have hfz333_1 := blk_frozen BK216.out 1; have hnb334 := NB217_170.out; have hnc334 := NB170_217.out; have hnb335 := NB217_175.out; have hnc335 := NB175_217.out; have hnb336 := NB217_206.out; have hnc336 := NB206_217.out; have hnb337 := NB217_207.out; have hnc337 := NB207_217.out; have hcz338_0 : w327.cell? ⟨gb217, 0, none⟩ = some (.int .i64 0) := (blk_cell BK217.out 0).trans rfl; have hcz338_1 : w327.cell? ⟨gb217, 1, none⟩ = some (.int .i64 0) := (blk_cell BK217.out 1).trans rfl; have hfz338_0 := blk_frozen BK217.out 0; have hfz338_1 := blk_frozen BK217.out 1) | ((with_reducible refine gate_dst (N := 16) rfl ?_); refine box_event ?hg (N := 16) ?hd (cs := #[.int .i64 0, .int .i64 0]) (t := 30) ?hr ?_; (case hd => rfl); (case hg => rfl); (case hr => first | (go_simp; done) | (go_simp; rfl)); intro gb218 hg w339 hbox hb; have n0_ := Aside0.mk (Kd.R_below (by (with_reducible repeat (first | apply Kd.R_alloc | apply Kd.R_drewN | apply Kd.R_drew)); exact (Kd.R_mono (Kd.R_mono (Kd.R_far (p := ⟨gb217, 1, none⟩) (Kd.R_far (p := ⟨gb217, 0, none⟩) (Kd.R_far (p := ⟨gb216, 1, none⟩) (Kd.R_far (p := ⟨gb216, 0, none⟩) (Kd.R_types (Kd.R_types HO173.out BK216.out (by decide)) BK217.out (by decide)) (fun _ hk => hk.1.2) (.int .i64 t211)) (fun _ hk => hk.1.2) (.int .i64 t212)) (fun _ hk => hk.2) (.int .i64 t214)) (fun _ hk => hk.2) (.int .i64 t215)) (fun _ h_ => h_.1)) (fun _ h_ => h_.1))) hb); have n1_ := Aside0.mk (MR.R_below (by (with_reducible repeat (first | apply MR.R_alloc | apply MR.R_drewN | apply MR.R_drew)); exact (MR.R_mono (MR.R_mono (MR.R_far (p := ⟨gb217, 1, none⟩) (MR.R_far (p := ⟨gb217, 0, none⟩) (MR.R_far (p := ⟨gb216, 1, none⟩) (MR.R_far (p := ⟨gb216, 0, none⟩) (MR.R_types (MR.R_types HO200.out BK216.out (by decide)) BK217.out (by decide)) (fun _ hk => hk.1.2) (.int .i64 t211)) (fun _ hk => hk.1.2) (.int .i64 t212)) (fun _ hk => hk.2) (.int .i64 t214)) (fun _ hk => hk.2) (.int .i64 t215)) (fun _ h_ => h_.1)) (fun _ h_ => h_.1))) hb); have n2_ := Aside0.mk (MR.R_below (by (with_reducible repeat (first | apply MR.R_alloc | apply MR.R_drewN | apply MR.R_drew)); exact (MR.R_mono (MR.R_mono (MR.R_far (p := ⟨gb217, 1, none⟩) (MR.R_far (p := ⟨gb217, 0, none⟩) (MR.R_far (p := ⟨gb216, 1, none⟩) (MR.R_far (p := ⟨gb216, 0, none⟩) (MR.R_types (MR.R_types HO210.out BK216.out (by decide)) BK217.out (by decide)) (fun _ hk => hk.1.2) (.int .i64 t211)) (fun _ hk => hk.1.2) (.int .i64 t212)) (fun _ hk => hk.2) (.int .i64 t214)) (fun _ hk => hk.2) (.int .i64 t215)) (fun _ h_ => h_.1)) (fun _ h_ => h_.1))) hb); have n3_ := Aside0.mk (blk_below (g := gb170) (o := .cells #[.int .i64 a2_0, .int .i64 a2_1] 27 (0, 0)) (by (with_reducible repeat (first | refine blk_drewN ?_ _ | refine blk_drew ?_ | refine blk_alloc ?_ _)); refine blk_far ?_ NB170_217.out _; (with_reducible repeat (first | refine blk_drewN ?_ _ | refine blk_drew ?_ | refine blk_alloc ?_ _)); refine blk_far ?_ NB170_217.out _; (with_reducible repeat (first | refine blk_drewN ?_ _ | refine blk_drew ?_ | refine blk_alloc ?_ _)); refine blk_far ?_ NB170_216.out _; (with_reducible repeat (first | refine blk_drewN ?_ _ | refine blk_drew ?_ | refine blk_alloc ?_ _)); refine blk_far ?_ NB170_216.out _; (with_reducible repeat (first | refine blk_drewN ?_ _ | refine blk_drew ?_ | refine blk_alloc ?_ _)); exact BK170.out) hb); have n4_ := Aside0.mk (blk_below (g := gb175) (o := .cells #[.string ((rd_T38 t171 (ji6)).f0), .int .i64 ((rd_T38 t171 (ji6)).f1), .int .i64 ((rd_T38 t171 (ji6)).f2)] 38 (0, 0)) (by (with_reducible repeat (first | refine blk_drewN ?_ _ | refine blk_drew ?_ | refine blk_alloc ?_ _)); refine blk_far ?_ NB175_217.out _; (with_reducible repeat (first | refine blk_drewN ?_ _ | refine blk_drew ?_ | refine blk_alloc ?_ _)); refine blk_far ?_ NB175_217.out _; (with_reducible repeat (first | refine blk_drewN ?_ _ | refine blk_drew ?_ | refine blk_alloc ?_ _)); refine blk_far ?_ NB175_216.out _; (with_reducible repeat (first | refine blk_drewN ?_ _ | refine blk_drew ?_ | refine blk_alloc ?_ _)); refine blk_far ?_ NB175_216.out _; (with_reducible repeat (first | refine blk_drewN ?_ _ | refine blk_drew ?_ | refine blk_alloc ?_ _)); exact BK175.out) hb); have n5_ := Aside0.mk (blk_below (g := gb206) (o := .cells #[.int .i64 t201, .int .i64 t202] 27 (0, 0)) (by (with_reducible repeat (first | refine blk_drewN ?_ _ | refine blk_drew ?_ | refine blk_alloc ?_ _)); refine blk_far ?_ NB206_217.out _; (with_reducible repeat (first | refine blk_drewN ?_ _ | refine blk_drew ?_ | refine blk_alloc ?_ _)); refine blk_far ?_ NB206_217.out _; (with_reducible repeat (first | refine blk_drewN ?_ _ | refine blk_drew ?_ | refine blk_alloc ?_ _)); refine blk_far ?_ NB206_216.out _; (with_reducible repeat (first | refine blk_drewN ?_ _ | refine blk_drew ?_ | refine blk_alloc ?_ _)); refine blk_far ?_ NB206_216.out _; (with_reducible repeat (first | refine blk_drewN ?_ _ | refine blk_drew ?_ | refine blk_alloc ?_ _)); exact BK206.out) hb); have n6_ := Aside0.mk (blk_below (g := gb207) (o := .cells #[.int .i64 t204, .int .i64 t205] 30 (0, 0)) (by (with_reducible repeat (first | refine blk_drewN ?_ _ | refine blk_drew ?_ | refine blk_alloc ?_ _)); refine blk_far ?_ NB207_217.out _; (with_reducible repeat (first | refine blk_drewN ?_ _ | refine blk_drew ?_ | refine blk_alloc ?_ _)); refine blk_far ?_ NB207_217.out _; (with_reducible repeat (first | refine blk_drewN ?_ _ | refine blk_drew ?_ | refine blk_alloc ?_ _)); refine blk_far ?_ NB207_216.out _; (with_reducible repeat (first | refine blk_drewN ?_ _ | refine blk_drew ?_ | refine blk_alloc ?_ _)); refine blk_far ?_ NB207_216.out _; (with_reducible repeat (first | refine blk_drewN ?_ _ | refine blk_drew ?_ | refine blk_alloc ?_ _)); exact BK207.out) hb); have n7_ := Aside0.mk (blk_below (g := gb216) (o := .cells #[.int .i64 t211, .int .i64 t212] 27 (0, 0)) (by (with_reducible repeat (first | refine blk_drewN ?_ _ | refine blk_drew ?_ | refine blk_alloc ?_ _)); refine blk_far ?_ NB216_217.out _; (with_reducible repeat (first | refine blk_drewN ?_ _ | refine blk_drew ?_ | refine blk_alloc ?_ _)); refine blk_far ?_ NB216_217.out _; (with_reducible repeat (first | refine blk_drewN ?_ _ | refine blk_drew ?_ | refine blk_alloc ?_ _)); refine blk_put (cs := #[.int .i64 t211, .int .i64 0]) ?_ 1 _ rfl; (with_reducible repeat (first | refine blk_drewN ?_ _ | refine blk_drew ?_ | refine blk_alloc ?_ _)); refine blk_put (cs := #[.int .i64 0, .int .i64 0]) ?_ 0 _ rfl; (with_reducible repeat (first | refine blk_drewN ?_ _ | refine blk_drew ?_ | refine blk_alloc ?_ _)); exact BK216.out) hb); have n8_ := Aside0.mk (blk_below (g := gb217) (o := .cells #[.int .i64 t214, .int .i64 t215] 30 (0, 0)) (by (with_reducible repeat (first | refine blk_drewN ?_ _ | refine blk_drew ?_ | refine blk_alloc ?_ _)); refine blk_put (cs := #[.int .i64 t214, .int .i64 0]) ?_ 1 _ rfl; (with_reducible repeat (first | refine blk_drewN ?_ _ | refine blk_drew ?_ | refine blk_alloc ?_ _)); refine blk_put (cs := #[.int .i64 0, .int .i64 0]) ?_ 0 _ rfl; (with_reducible repeat (first | refine blk_drewN ?_ _ | refine blk_drew ?_ | refine blk_alloc ?_ _)); refine blk_far ?_ NB217_216.out _; (with_reducible repeat (first | refine blk_drewN ?_ _ | refine blk_drew ?_ | refine blk_alloc ?_ _)); refine blk_far ?_ NB217_216.out _; (with_reducible repeat (first | refine blk_drewN ?_ _ | refine blk_drew ?_ | refine blk_alloc ?_ _)); exact BK217.out) hb); have n9_ := Aside0.mk (below_step (by repeat (first | (with_reducible first | exact HB.out | apply below_alloc | apply pw_below_drewN | apply below_drew1 | refine below_set ?_ GE170.out | refine below_set ?_ GE175.out | refine below_set ?_ GE206.out | refine below_set ?_ GE207.out | refine below_set ?_ GE216.out | refine below_set ?_ GE217.out) | exact HB.out)) hb); have n10_ := Aside0.mk (hbox); have n11_ := Aside0.mk ((by rw [hg]; exact (below_size (by repeat (first | (with_reducible first | exact HB.out | apply below_alloc | apply pw_below_drewN | apply below_drew1 | refine below_set ?_ GE170.out | refine below_set ?_ GE175.out | refine below_set ?_ GE206.out | refine below_set ?_ GE207.out | refine below_set ?_ GE216.out | refine below_set ?_ GE217.out) | exact HB.out))) : w.heap.size ≤ gb218)); have n12_ := Aside0.mk ((by rw [hg]; exact (below_size (by repeat (first | (with_reducible first | exact HB.out | apply below_alloc | apply pw_below_drewN | apply below_drew1 | refine below_set ?_ GE170.out | refine below_set ?_ GE175.out | refine below_set ?_ GE206.out | refine below_set ?_ GE207.out | refine below_set ?_ GE216.out | refine below_set ?_ GE217.out) | exact HB.out))) : w.heap.size ≤ gb218)); have n13_ := Aside0.mk ((by rw [hg]; exact Nat.ne_of_lt (blk_lt (g := gb170) (o := .cells #[.int .i64 a2_0, .int .i64 a2_1] 27 (0, 0)) (by (with_reducible repeat (first | refine blk_drewN ?_ _ | refine blk_drew ?_ | refine blk_alloc ?_ _)); refine blk_far ?_ NB170_217.out _; (with_reducible repeat (first | refine blk_drewN ?_ _ | refine blk_drew ?_ | refine blk_alloc ?_ _)); refine blk_far ?_ NB170_217.out _; (with_reducible repeat (first | refine blk_drewN ?_ _ | refine blk_drew ?_ | refine blk_alloc ?_ _)); refine blk_far ?_ NB170_216.out _; (with_reducible repeat (first | refine blk_drewN ?_ _ | refine blk_drew ?_ | refine blk_alloc ?_ _)); refine blk_far ?_ NB170_216.out _; (with_reducible repeat (first | refine blk_drewN ?_ _ | refine blk_drew ?_ | refine blk_alloc ?_ _)); exact BK170.out)) : gb170 ≠ gb218)); have n14_ := Aside0.mk ((by rw [hg]; exact Nat.ne_of_gt (blk_lt (g := gb170) (o := .cells #[.int .i64 a2_0, .int .i64 a2_1] 27 (0, 0)) (by (with_reducible repeat (first | refine blk_drewN ?_ _ | refine blk_drew ?_ | refine blk_alloc ?_ _)); refine blk_far ?_ NB170_217.out _; (with_reducible repeat (first | refine blk_drewN ?_ _ | refine blk_drew ?_ | refine blk_alloc ?_ _)); refine blk_far ?_ NB170_217.out _; (with_reducible repeat (first | refine blk_drewN ?_ _ | refine blk_drew ?_ | refine blk_alloc ?_ _)); refine blk_far ?_ NB170_216.out _; (with_reducible repeat (first | refine blk_drewN ?_ _ | refine blk_drew ?_ | refine blk_alloc ?_ _)); refine blk_far ?_ NB170_216.out _; (with_reducible repeat (first | refine blk_drewN ?_ _ | refine blk_drew ?_ | refine blk_alloc ?_ _)); exact BK170.out)) : gb218 ≠ gb170)); have n15_ := Aside0.mk ((by rw [hg]; exact Nat.ne_of_lt (blk_lt (g := gb175) (o := .cells #[.string ((rd_T38 t171 (ji6)).f0), .int .i64 ((rd_T38 t171 (ji6)).f1), .int .i64 ((rd_T38 t171 (ji6)).f2)] 38 (0, 0)) (by (with_reducible repeat (first | refine blk_drewN ?_ _ | refine blk_drew ?_ | refine blk_alloc ?_ _)); refine blk_far ?_ NB175_217.out _; (with_reducible repeat (first | refine blk_drewN ?_ _ | refine blk_drew ?_ | refine blk_alloc ?_ _)); refine blk_far ?_ NB175_217.out _; (with_reducible repeat (first | refine blk_drewN ?_ _ | refine blk_drew ?_ | refine blk_alloc ?_ _)); refine blk_far ?_ NB175_216.out _; (with_reducible repeat (first | refine blk_drewN ?_ _ | refine blk_drew ?_ | refine blk_alloc ?_ _)); refine blk_far ?_ NB175_216.out _; (with_reducible repeat (first | refine blk_drewN ?_ _ | refine blk_drew ?_ | refine blk_alloc ?_ _)); exact BK175.out)) : gb175 ≠ gb218)); have n16_ := Aside0.mk ((by rw [hg]; exact Nat.ne_of_gt (blk_lt (g := gb175) (o := .cells #[.string ((rd_T38 t171 (ji6)).f0), .int .i64 ((rd_T38 t171 (ji6)).f1), .int .i64 ((rd_T38 t171 (ji6)).f2)] 38 (0, 0)) (by (with_reducible repeat (first | refine blk_drewN ?_ _ | refine blk_drew ?_ | refine blk_alloc ?_ _)); refine blk_far ?_ NB175_217.out _; (with_reducible repeat (first | refine blk_drewN ?_ _ | refine blk_drew ?_ | refine blk_alloc ?_ _)); refine blk_far ?_ NB175_217.out _; (with_reducible repeat (first | refine blk_drewN ?_ _ | refine blk_drew ?_ | refine blk_alloc ?_ _)); refine blk_far ?_ NB175_216.out _; (with_reducible repeat (first | refine blk_drewN ?_ _ | refine blk_drew ?_ | refine blk_alloc ?_ _)); refine blk_far ?_ NB175_216.out _; (with_reducible repeat (first | refine blk_drewN ?_ _ | refine blk_drew ?_ | refine blk_alloc ?_ _)); exact BK175.out)) : gb218 ≠ gb175)); have n17_ := Aside0.mk ((by rw [hg]; exact Nat.ne_of_lt (blk_lt (g := gb206) (o := .cells #[.int .i64 t201, .int .i64 t202] 27 (0, 0)) (by (with_reducible repeat (first | refine blk_drewN ?_ _ | refine blk_drew ?_ | refine blk_alloc ?_ _)); refine blk_far ?_ NB206_217.out _; (with_reducible repeat (first | refine blk_drewN ?_ _ | refine blk_drew ?_ | refine blk_alloc ?_ _)); refine blk_far ?_ NB206_217.out _; (with_reducible repeat (first | refine blk_drewN ?_ _ | refine blk_drew ?_ | refine blk_alloc ?_ _)); refine blk_far ?_ NB206_216.out _; (with_reducible repeat (first | refine blk_drewN ?_ _ | refine blk_drew ?_ | refine blk_alloc ?_ _)); refine blk_far ?_ NB206_216.out _; (with_reducible repeat (first | refine blk_drewN ?_ _ | refine blk_drew ?_ | refine blk_alloc ?_ _)); exact BK206.out)) : gb206 ≠ gb218)); have n18_ := Aside0.mk ((by rw [hg]; exact Nat.ne_of_gt (blk_lt (g := gb206) (o := .cells #[.int .i64 t201, .int .i64 t202] 27 (0, 0)) (by (with_reducible repeat (first | refine blk_drewN ?_ _ | refine blk_drew ?_ | refine blk_alloc ?_ _)); refine blk_far ?_ NB206_217.out _; (with_reducible repeat (first | refine blk_drewN ?_ _ | refine blk_drew ?_ | refine blk_alloc ?_ _)); refine blk_far ?_ NB206_217.out _; (with_reducible repeat (first | refine blk_drewN ?_ _ | refine blk_drew ?_ | refine blk_alloc ?_ _)); refine blk_far ?_ NB206_216.out _; (with_reducible repeat (first | refine blk_drewN ?_ _ | refine blk_drew ?_ | refine blk_alloc ?_ _)); refine blk_far ?_ NB206_216.out _; (with_reducible repeat (first | refine blk_drewN ?_ _ | refine blk_drew ?_ | refine blk_alloc ?_ _)); exact BK206.out)) : gb218 ≠ gb206)); have n19_ := Aside0.mk ((by rw [hg]; exact Nat.ne_of_lt (blk_lt (g := gb207) (o := .cells #[.int .i64 t204, .int .i64 t205] 30 (0, 0)) (by (with_reducible repeat (first | refine blk_drewN ?_ _ | refine blk_drew ?_ | refine blk_alloc ?_ _)); refine blk_far ?_ NB207_217.out _; (with_reducible repeat (first | refine blk_drewN ?_ _ | refine blk_drew ?_ | refine blk_alloc ?_ _)); refine blk_far ?_ NB207_217.out _; (with_reducible repeat (first | refine blk_drewN ?_ _ | refine blk_drew ?_ | refine blk_alloc ?_ _)); refine blk_far ?_ NB207_216.out _; (with_reducible repeat (first | refine blk_drewN ?_ _ | refine blk_drew ?_ | refine blk_alloc ?_ _)); refine blk_far ?_ NB207_216.out _; (with_reducible repeat (first | refine blk_drewN ?_ _ | refine blk_drew ?_ | refine blk_alloc ?_ _)); exact BK207.out)) : gb207 ≠ gb218)); have n20_ := Aside0.mk ((by rw [hg]; exact Nat.ne_of_gt (blk_lt (g := gb207) (o := .cells #[.int .i64 t204, .int .i64 t205] 30 (0, 0)) (by (with_reducible repeat (first | refine blk_drewN ?_ _ | refine blk_drew ?_ | refine blk_alloc ?_ _)); refine blk_far ?_ NB207_217.out _; (with_reducible repeat (first | refine blk_drewN ?_ _ | refine blk_drew ?_ | refine blk_alloc ?_ _)); refine blk_far ?_ NB207_217.out _; (with_reducible repeat (first | refine blk_drewN ?_ _ | refine blk_drew ?_ | refine blk_alloc ?_ _)); refine blk_far ?_ NB207_216.out _; (with_reducible repeat (first | refine blk_drewN ?_ _ | refine blk_drew ?_ | refine blk_alloc ?_ _)); refine blk_far ?_ NB207_216.out _; (with_reducible repeat (first | refine blk_drewN ?_ _ | refine blk_drew ?_ | refine blk_alloc ?_ _)); exact BK207.out)) : gb218 ≠ gb207)); have n21_ := Aside0.mk ((by rw [hg]; exact Nat.ne_of_lt (blk_lt (g := gb216) (o := .cells #[.int .i64 t211, .int .i64 t212] 27 (0, 0)) (by (with_reducible repeat (first | refine blk_drewN ?_ _ | refine blk_drew ?_ | refine blk_alloc ?_ _)); refine blk_far ?_ NB216_217.out _; (with_reducible repeat (first | refine blk_drewN ?_ _ | refine blk_drew ?_ | refine blk_alloc ?_ _)); refine blk_far ?_ NB216_217.out _; (with_reducible repeat (first | refine blk_drewN ?_ _ | refine blk_drew ?_ | refine blk_alloc ?_ _)); refine blk_put (cs := #[.int .i64 t211, .int .i64 0]) ?_ 1 _ rfl; (with_reducible repeat (first | refine blk_drewN ?_ _ | refine blk_drew ?_ | refine blk_alloc ?_ _)); refine blk_put (cs := #[.int .i64 0, .int .i64 0]) ?_ 0 _ rfl; (with_reducible repeat (first | refine blk_drewN ?_ _ | refine blk_drew ?_ | refine blk_alloc ?_ _)); exact BK216.out)) : gb216 ≠ gb218)); have n22_ := Aside0.mk ((by rw [hg]; exact Nat.ne_of_gt (blk_lt (g := gb216) (o := .cells #[.int .i64 t211, .int .i64 t212] 27 (0, 0)) (by (with_reducible repeat (first | refine blk_drewN ?_ _ | refine blk_drew ?_ | refine blk_alloc ?_ _)); refine blk_far ?_ NB216_217.out _; (with_reducible repeat (first | refine blk_drewN ?_ _ | refine blk_drew ?_ | refine blk_alloc ?_ _)); refine blk_far ?_ NB216_217.out _; (with_reducible repeat (first | refine blk_drewN ?_ _ | refine blk_drew ?_ | refine blk_alloc ?_ _)); refine blk_put (cs := #[.int .i64 t211, .int .i64 0]) ?_ 1 _ rfl; (with_reducible repeat (first | refine blk_drewN ?_ _ | refine blk_drew ?_ | refine blk_alloc ?_ _)); refine blk_put (cs := #[.int .i64 0, .int .i64 0]) ?_ 0 _ rfl; (with_reducible repeat (first | refine blk_drewN ?_ _ | refine blk_drew ?_ | refine blk_alloc ?_ _)); exact BK216.out)) : gb218 ≠ gb216)); have n23_ := Aside0.mk ((by rw [hg]; exact Nat.ne_of_lt (blk_lt (g := gb217) (o := .cells #[.int .i64 t214, .int .i64 t215] 30 (0, 0)) (by (with_reducible repeat (first | refine blk_drewN ?_ _ | refine blk_drew ?_ | refine blk_alloc ?_ _)); refine blk_put (cs := #[.int .i64 t214, .int .i64 0]) ?_ 1 _ rfl; (with_reducible repeat (first | refine blk_drewN ?_ _ | refine blk_drew ?_ | refine blk_alloc ?_ _)); refine blk_put (cs := #[.int .i64 0, .int .i64 0]) ?_ 0 _ rfl; (with_reducible repeat (first | refine blk_drewN ?_ _ | refine blk_drew ?_ | refine blk_alloc ?_ _)); refine blk_far ?_ NB217_216.out _; (with_reducible repeat (first | refine blk_drewN ?_ _ | refine blk_drew ?_ | refine blk_alloc ?_ _)); refine blk_far ?_ NB217_216.out _; (with_reducible repeat (first | refine blk_drewN ?_ _ | refine blk_drew ?_ | refine blk_alloc ?_ _)); exact BK217.out)) : gb217 ≠ gb218)); have n24_ := Aside0.mk ((by rw [hg]; exact Nat.ne_of_gt (blk_lt (g := gb217) (o := .cells #[.int .i64 t214, .int .i64 t215] 30 (0, 0)) (by (with_reducible repeat (first | refine blk_drewN ?_ _ | refine blk_drew ?_ | refine blk_alloc ?_ _)); refine blk_put (cs := #[.int .i64 t214, .int .i64 0]) ?_ 1 _ rfl; (with_reducible repeat (first | refine blk_drewN ?_ _ | refine blk_drew ?_ | refine blk_alloc ?_ _)); refine blk_put (cs := #[.int .i64 0, .int .i64 0]) ?_ 0 _ rfl; (with_reducible repeat (first | refine blk_drewN ?_ _ | refine blk_drew ?_ | refine blk_alloc ?_ _)); refine blk_far ?_ NB217_216.out _; (with_reducible repeat (first | refine blk_drewN ?_ _ | refine blk_drew ?_ | refine blk_alloc ?_ _)); refine blk_far ?_ NB217_216.out _; (with_reducible repeat (first | refine blk_drewN ?_ _ | refine blk_drew ?_ | refine blk_alloc ?_ _)); exact BK217.out)) : gb218 ≠ gb217)); clear HO173; clear HO200; clear HO210; clear BK170; clear BK175; clear BK206; clear BK207; clear BK216; clear BK217; clear HB; have HO173 := n0_; have HO200 := n1_; have HO210 := n2_; have BK170 := n3_; have BK175 := n4_; have BK206 := n5_; have BK207 := n6_; have BK216 := n7_; have BK217 := n8_; have HB := n9_; have BK218 := n10_; have GW218 := n11_; have GE218 := n12_; have NB170_218 := n13_; have NB218_170 := n14_; have NB175_218 := n15_; have NB218_175 := n16_; have NB206_218 := n17_; have NB218_206 := n18_; have NB207_218 := n19_; have NB218_207 := n20_; have NB216_218 := n21_; have NB218_216 := n22_; have NB217_218 := n23_; have NB218_217 := n24_; clear n0_ n1_ n2_ n3_ n4_ n5_ n6_ n7_ n8_ n9_ n10_ n11_ n12_ n13_ n14_ n15_ n16_ n17_ n18_ n19_ n20_ n21_ n22_ n23_ n24_; clear hb hbox hg; have hnb340 := NB218_170.out; have hnc340 := NB170_218.out; have hnb341 := NB218_175.out; have hnc341 := NB175_218.out; have hnb342 := NB218_206.out; have hnc342 := NB206_218.out; have hnb343 := NB218_207.out; have hnc343 := NB207_218.out; have hnb344 := NB218_216.out; have hnc344 := NB216_218.out; have hnb345 := NB218_217.out; have hnc345 := NB217_218.out; have hcz346_0 : w339.cell? ⟨gb218, 0, none⟩ = some (.int .i64 0) := (blk_cell BK218.out 0).trans rfl; have hcz346_1 : w339.cell? ⟨gb218, 1, none⟩ = some (.int .i64 0) := (blk_cell BK218.out 1).trans rfl; have hfz346_0 := blk_frozen BK218.out 0; have hfz346_1 := blk_frozen BK218.out 1) | ((with_reducible refine gate_callee (f := 22) rfl ?_); refine goesL_ (some 56) rfl rfl Try.func22 (by kernel_rfl) rfl #[] rfl (by (try simp only [List.map_toArray, List.map_cons, List.map_nil]); first | done | rfl | (simp only [List.length_drop, List.length_take]; rfl)) ?_; (with_reducible refine (amanuensislaw14_answers.calls k  true _ A292.out).mono ?_); rintro e w347 ⟨rfl, hb⟩; refine ⟨_, rfl, ?_⟩; have n0_ := Aside0.mk (Kd.R_below (by (with_reducible repeat (first | apply Kd.R_alloc | apply Kd.R_drewN | apply Kd.R_drew)); exact (Kd.R_mono (Kd.R_far (p := ⟨gb218, 1, none⟩) (Kd.R_far (p := ⟨gb218, 0, none⟩) (Kd.R_types HO173.out BK218.out (by decide)) (fun _ hk => hk.2) (.int .i64 5)) (fun _ hk => hk.2) (.int .i64 1)) (fun _ h_ => h_.1))) hb); have n1_ := Aside0.mk (MR.R_below (by (with_reducible repeat (first | apply MR.R_alloc | apply MR.R_drewN | apply MR.R_drew)); exact (MR.R_mono (MR.R_far (p := ⟨gb218, 1, none⟩) (MR.R_far (p := ⟨gb218, 0, none⟩) (MR.R_types HO200.out BK218.out (by decide)) (fun _ hk => hk.2) (.int .i64 5)) (fun _ hk => hk.2) (.int .i64 1)) (fun _ h_ => h_.1))) hb); have n2_ := Aside0.mk (MR.R_below (by (with_reducible repeat (first | apply MR.R_alloc | apply MR.R_drewN | apply MR.R_drew)); exact (MR.R_mono (MR.R_far (p := ⟨gb218, 1, none⟩) (MR.R_far (p := ⟨gb218, 0, none⟩) (MR.R_types HO210.out BK218.out (by decide)) (fun _ hk => hk.2) (.int .i64 5)) (fun _ hk => hk.2) (.int .i64 1)) (fun _ h_ => h_.1))) hb); have n3_ := Aside0.mk (blk_below (g := gb170) (o := .cells #[.int .i64 a2_0, .int .i64 a2_1] 27 (0, 0)) (by (with_reducible repeat (first | refine blk_drewN ?_ _ | refine blk_drew ?_ | refine blk_alloc ?_ _)); refine blk_far ?_ NB170_218.out _; (with_reducible repeat (first | refine blk_drewN ?_ _ | refine blk_drew ?_ | refine blk_alloc ?_ _)); refine blk_far ?_ NB170_218.out _; (with_reducible repeat (first | refine blk_drewN ?_ _ | refine blk_drew ?_ | refine blk_alloc ?_ _)); exact BK170.out) hb); have n4_ := Aside0.mk (blk_below (g := gb175) (o := .cells #[.string ((rd_T38 t171 (ji6)).f0), .int .i64 ((rd_T38 t171 (ji6)).f1), .int .i64 ((rd_T38 t171 (ji6)).f2)] 38 (0, 0)) (by (with_reducible repeat (first | refine blk_drewN ?_ _ | refine blk_drew ?_ | refine blk_alloc ?_ _)); refine blk_far ?_ NB175_218.out _; (with_reducible repeat (first | refine blk_drewN ?_ _ | refine blk_drew ?_ | refine blk_alloc ?_ _)); refine blk_far ?_ NB175_218.out _; (with_reducible repeat (first | refine blk_drewN ?_ _ | refine blk_drew ?_ | refine blk_alloc ?_ _)); exact BK175.out) hb); have n5_ := Aside0.mk (blk_below (g := gb206) (o := .cells #[.int .i64 t201, .int .i64 t202] 27 (0, 0)) (by (with_reducible repeat (first | refine blk_drewN ?_ _ | refine blk_drew ?_ | refine blk_alloc ?_ _)); refine blk_far ?_ NB206_218.out _; (with_reducible repeat (first | refine blk_drewN ?_ _ | refine blk_drew ?_ | refine blk_alloc ?_ _)); refine blk_far ?_ NB206_218.out _; (with_reducible repeat (first | refine blk_drewN ?_ _ | refine blk_drew ?_ | refine blk_alloc ?_ _)); exact BK206.out) hb); have n6_ := Aside0.mk (blk_below (g := gb207) (o := .cells #[.int .i64 t204, .int .i64 t205] 30 (0, 0)) (by (with_reducible repeat (first | refine blk_drewN ?_ _ | refine blk_drew ?_ | refine blk_alloc ?_ _)); refine blk_far ?_ NB207_218.out _; (with_reducible repeat (first | refine blk_drewN ?_ _ | refine blk_drew ?_ | refine blk_alloc ?_ _)); refine blk_far ?_ NB207_218.out _; (with_reducible repeat (first | refine blk_drewN ?_ _ | refine blk_drew ?_ | refine blk_alloc ?_ _)); exact BK207.out) hb); have n7_ := Aside0.mk (blk_below (g := gb216) (o := .cells #[.int .i64 t211, .int .i64 t212] 27 (0, 0)) (by (with_reducible repeat (first | refine blk_drewN ?_ _ | refine blk_drew ?_ | refine blk_alloc ?_ _)); refine blk_far ?_ NB216_218.out _; (with_reducible repeat (first | refine blk_drewN ?_ _ | refine blk_drew ?_ | refine blk_alloc ?_ _)); refine blk_far ?_ NB216_218.out _; (with_reducible repeat (first | refine blk_drewN ?_ _ | refine blk_drew ?_ | refine blk_alloc ?_ _)); exact BK216.out) hb); have n8_ := Aside0.mk (blk_below (g := gb217) (o := .cells #[.int .i64 t214, .int .i64 t215] 30 (0, 0)) (by (with_reducible repeat (first | refine blk_drewN ?_ _ | refine blk_drew ?_ | refine blk_alloc ?_ _)); refine blk_far ?_ NB217_218.out _; (with_reducible repeat (first | refine blk_drewN ?_ _ | refine blk_drew ?_ | refine blk_alloc ?_ _)); refine blk_far ?_ NB217_218.out _; (with_reducible repeat (first | refine blk_drewN ?_ _ | refine blk_drew ?_ | refine blk_alloc ?_ _)); exact BK217.out) hb); have n9_ := Aside0.mk (blk_below (g := gb218) (o := .cells #[.int .i64 5, .int .i64 1] 30 (0, 0)) (by (with_reducible repeat (first | refine blk_drewN ?_ _ | refine blk_drew ?_ | refine blk_alloc ?_ _)); refine blk_put (cs := #[.int .i64 5, .int .i64 0]) ?_ 1 _ rfl; (with_reducible repeat (first | refine blk_drewN ?_ _ | refine blk_drew ?_ | refine blk_alloc ?_ _)); refine blk_put (cs := #[.int .i64 0, .int .i64 0]) ?_ 0 _ rfl; (with_reducible repeat (first | refine blk_drewN ?_ _ | refine blk_drew ?_ | refine blk_alloc ?_ _)); exact BK218.out) hb); have n10_ := Aside0.mk (below_step (by repeat (first | (with_reducible first | exact HB.out | apply below_alloc | apply pw_below_drewN | apply below_drew1 | refine below_set ?_ GE170.out | refine below_set ?_ GE175.out | refine below_set ?_ GE206.out | refine below_set ?_ GE207.out | refine below_set ?_ GE216.out | refine below_set ?_ GE217.out | refine below_set ?_ GE218.out) | exact HB.out)) hb); clear HO173; clear HO200; clear HO210; clear BK170; clear BK175; clear BK206; clear BK207; clear BK216; clear BK217; clear BK218; clear HB; have HO173 := n0_; have HO200 := n1_; have HO210 := n2_; have BK170 := n3_; have BK175 := n4_; have BK206 := n5_; have BK207 := n6_; have BK216 := n7_; have BK217 := n8_; have BK218 := n9_; have HB := n10_; clear n0_ n1_ n2_ n3_ n4_ n5_ n6_ n7_ n8_ n9_ n10_; (try clear hb); (try clear hb2); (try clear hk); (try clear hi); have hnb348 := NB207_206.out; have hnc348 := NB206_207.out; have hcz349_0 : w347.cell? ⟨gb207, 0, none⟩ = some (.int .i64 t204) := (blk_cell BK207.out 0).trans rfl; have hcz349_1 : w347.cell? ⟨gb207, 1, none⟩ = some (.int .i64 t205) := (blk_cell BK207.out 1).trans rfl; have hfz349_0 := blk_frozen BK207.out 0; have hfz349_1 := blk_frozen BK207.out 1; have hcz350_0 : w347.cell? ⟨gb218, 0, none⟩ = some (.int .i64 5) := (blk_cell BK218.out 0).trans rfl; have hcz350_1 : w347.cell? ⟨gb218, 1, none⟩ = some (.int .i64 1) := (blk_cell BK218.out 1).trans rfl; have hfz350_0 := blk_frozen BK218.out 0; have hfz350_1 := blk_frozen BK218.out 1; have hcz351_0 : w347.cell? ⟨gb217, 0, none⟩ = some (.int .i64 t214) := (blk_cell BK217.out 0).trans rfl; have hcz351_1 : w347.cell? ⟨gb217, 1, none⟩ = some (.int .i64 t215) := (blk_cell BK217.out 1).trans rfl; have hfz351_0 := blk_frozen BK217.out 0; have hfz351_1 := blk_frozen BK217.out 1))
                          go_ret
                          exact ⟨by first | rfl | (simp [errW_none, errW_some] <;> rfl) | (simp only [← hji6, ← hji286]; first | rfl | (simp [errW_none, errW_some] <;> rfl)) | (simp [*, errW_none, errW_some] <;> rfl), by repeat (first | (with_reducible first | exact HB.out | apply below_alloc | apply pw_below_drewN | apply below_drew1 | refine below_set ?_ GE170.out | refine below_set ?_ GE175.out | refine below_set ?_ GE206.out | refine below_set ?_ GE207.out | refine below_set ?_ GE216.out | refine below_set ?_ GE217.out | refine below_set ?_ GE218.out) | exact HB.out)⟩
                        · rw [if_neg c296] at H
                          exact absurd (Option.some.inj H) (by rw [hr.out]; decide)
                      · rw [if_neg c295] at H
                        exact absurd (Option.some.inj H) (by rw [hr.out]; decide)
                    · rw [if_neg c294] at H
                      exact absurd (Option.some.inj H) (by rw [hr.out]; decide)
                  · replace c293 := Bool.eq_false_iff.mpr c293
                    subst c293
                    have H1 : (some false) = some r := by rw [if_neg (show ¬ (false = true) by decide)] at H; exact H
                    exact absurd (Option.some.inj H1) (by rw [hr.out]; decide)
                · rw [if_neg c289] at H
                  exact absurd H (by simp)
              · rw [if_neg c288] at H
                exact absurd H (by simp)
            · rw [if_neg c287] at H
              exact absurd H (by simp)
      · rw [if_neg c8] at H
        exact absurd H (by simp)
    · rw [if_neg c7] at H
      exact absurd H (by simp)

end Go.Proofs.Ytjkgabmhhehhjaa.PEscapeCut
