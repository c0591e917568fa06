/- The walk of a law, by its ways: begun as a text of print.sh; mended and parted by programs of this session. -/
import Derived.Test.YtjkgabmhhehhjaaPEscapeCutxa

namespace Go.Proofs.Ytjkgabmhhehhjaa.PEscapeCut
open Go.Proofs.Ytjkgabmhhehhjaa.PEscapeReads Go.RowKit Go.Proofs.YtjkgabmhhehhjaaW.PrintWords Go.Proofs.YtjkgabmhhehhjaaW.PrintLast Go.Proofs.YtjkgabmhhehhjaaW.PrintMore
attribute [local go_sem] max2_int min2_int max_two min_two max_three min_three max_four min_four   -- for this text's walks alone
set_option linter.unusedVariables false
set_option linter.unusedSimpArgs false

attribute [local go_sem high] eqA30
set_option maxHeartbeats 8000000 in
set_option maxRecDepth 100000 in
theorem amanuensislaw14_EscapeCut.calls1 (k : Nat) (a0 : Int) (a1 : Int) (a2_0 : Int) (a2_1 : Int) (r : Bool) (hr : r = true) (w : World) (hway : ∀ t_, amanuensisref08_Escapes.f k = some t_ → (Int.tmod (wrap64 (a1)) (((rd_T38 t_ (Int.tmod (wrap64 (a0)) (t_.length : Int))).f0).size : Int) = 0)) (h : amanuensislaw14_EscapeCut.f k a0 a1 a2_0 a2_1 = some r) :
    Calls Try.prog 9 #[.int .u8 a0, .int .u8 a1, .agg #[.int .i64 a2_0, .int .i64 a2_1]] w fun e w' => e = .returned (.bool r) ∧ Below w.heap.size w w' := by
  replace hr := Aside0.mk hr
  have hu27 := Try.underlying27
  have hu38 := Try.underlying38
  have hu30 := Try.underlying30
  have HB := Aside0.mk (Below.refl w.heap.size w)
  have H : ((amanuensisref08_Escapes.f k).bind fun t171 => (if (t171.length : Int) = 0 then (none) else (if 0 ≤ (Int.tmod (wrap64 (a0)) (t171.length : Int)) then (if (Int.tmod (wrap64 (a0)) (t171.length : Int)) < (t171.length : Int) then (if (((rd_T38 t171 (Int.tmod (wrap64 (a0)) (t171.length : Int))).f0).size : Int) = 0 then (none) else (if (Int.tmod (wrap64 (a1)) (((rd_T38 t171 (Int.tmod (wrap64 (a0)) (t171.length : Int))).f0).size : Int)) = 0 then (if 0 ≤ 1 then (if 1 ≤ (((rd_T38 t171 (Int.tmod (wrap64 (a0)) (t171.length : Int))).f0).size : Int) then (if 1 + (((rd_T38 t171 (Int.tmod (wrap64 (a0)) (t171.length : Int))).f0).extract 0 1).size ≤ 9223372036854775807 then ((if ((⟨#[97]⟩ : ByteArray) ++ ((rd_T38 t171 (Int.tmod (wrap64 (a0)) (t171.length : Int))).f0).extract 0 1).size ≤ 9223372036854775807 then (escape_Next.f k (bytesOf ((⟨#[97]⟩ : ByteArray) ++ ((rd_T38 t171 (Int.tmod (wrap64 (a0)) (t171.length : Int))).f0).extract 0 1)) 1 a2_0 a2_1) else none).bind fun bt179 => ((if ((rd_T38 t171 (Int.tmod (wrap64 (a0)) (t171.length : Int))).f0).size ≤ 9223372036854775807 then (escape_Next.f k (bytesOf ((rd_T38 t171 (Int.tmod (wrap64 (a0)) (t171.length : Int))).f0)) 1 a2_0 a2_1) else none).bind fun bt189 => ((amanuensislaw14_answers.f k).bind fun t197 => (if t197 = true then (if bt179.2.2.1 = 0 then (if (bt179.2.2.2.1 == 5 && (bt179.2.2.2.2 == 1)) = true then (if bt189.2.2.1 = 0 then (some (bt189.2.2.2.1 == 1 && (bt189.2.2.2.2 == 1))) else (some false)) else (some false)) else (some false)) else (some false))))) else (none)) else (none)) else (none)) else (if 0 ≤ (Int.tmod (wrap64 (a1)) (((rd_T38 t171 (Int.tmod (wrap64 (a0)) (t171.length : Int))).f0).size : Int)) then (if (Int.tmod (wrap64 (a1)) (((rd_T38 t171 (Int.tmod (wrap64 (a0)) (t171.length : Int))).f0).size : Int)) ≤ (((rd_T38 t171 (Int.tmod (wrap64 (a0)) (t171.length : Int))).f0).size : Int) then (if 1 + (((rd_T38 t171 (Int.tmod (wrap64 (a0)) (t171.length : Int))).f0).extract 0 ((Int.tmod (wrap64 (a1)) (((rd_T38 t171 (Int.tmod (wrap64 (a0)) (t171.length : Int))).f0).size : Int)) : Int).toNat).size ≤ 9223372036854775807 then ((if ((⟨#[97]⟩ : ByteArray) ++ ((rd_T38 t171 (Int.tmod (wrap64 (a0)) (t171.length : Int))).f0).extract 0 ((Int.tmod (wrap64 (a1)) (((rd_T38 t171 (Int.tmod (wrap64 (a0)) (t171.length : Int))).f0).size : Int)) : Int).toNat).size ≤ 9223372036854775807 then (escape_Next.f k (bytesOf ((⟨#[97]⟩ : ByteArray) ++ ((rd_T38 t171 (Int.tmod (wrap64 (a0)) (t171.length : Int))).f0).extract 0 ((Int.tmod (wrap64 (a1)) (((rd_T38 t171 (Int.tmod (wrap64 (a0)) (t171.length : Int))).f0).size : Int)) : Int).toNat)) 1 a2_0 a2_1) else none).bind fun bt201 => ((if ((rd_T38 t171 (Int.tmod (wrap64 (a0)) (t171.length : Int))).f0).size ≤ 9223372036854775807 then (escape_Next.f k (bytesOf ((rd_T38 t171 (Int.tmod (wrap64 (a0)) (t171.length : Int))).f0)) 1 a2_0 a2_1) else none).bind fun bt211 => ((amanuensislaw14_answers.f k).bind fun t219 => (if t219 = true then (if bt201.2.2.1 = 0 then (if (bt201.2.2.2.1 == 5 && (bt201.2.2.2.2 == 1)) = true then (if bt211.2.2.1 = 0 then (some (bt211.2.2.2.1 == 1 && (bt211.2.2.2.2 == 1))) else (some false)) else (some false)) else (some false)) else (some false))))) else (none)) else (none)) else (none)))) else (none)) else (none)))) = some r := h
  clear h
  replace H := Option.bind_eq_some_iff.mp H
  obtain ⟨t171, A40, H⟩ := H
  replace H : (if (t171.length : Int) = 0 then (none) else (if 0 ≤ (Int.tmod (wrap64 (a0)) (t171.length : Int)) then (if (Int.tmod (wrap64 (a0)) (t171.length : Int)) < (t171.length : Int) then (if (((rd_T38 t171 (Int.tmod (wrap64 (a0)) (t171.length : Int))).f0).size : Int) = 0 then (none) else (if (Int.tmod (wrap64 (a1)) (((rd_T38 t171 (Int.tmod (wrap64 (a0)) (t171.length : Int))).f0).size : Int)) = 0 then (if 0 ≤ 1 then (if 1 ≤ (((rd_T38 t171 (Int.tmod (wrap64 (a0)) (t171.length : Int))).f0).size : Int) then (if 1 + (((rd_T38 t171 (Int.tmod (wrap64 (a0)) (t171.length : Int))).f0).extract 0 1).size ≤ 9223372036854775807 then ((if ((⟨#[97]⟩ : ByteArray) ++ ((rd_T38 t171 (Int.tmod (wrap64 (a0)) (t171.length : Int))).f0).extract 0 1).size ≤ 9223372036854775807 then (escape_Next.f k (bytesOf ((⟨#[97]⟩ : ByteArray) ++ ((rd_T38 t171 (Int.tmod (wrap64 (a0)) (t171.length : Int))).f0).extract 0 1)) 1 a2_0 a2_1) else none).bind fun bt179 => ((if ((rd_T38 t171 (Int.tmod (wrap64 (a0)) (t171.length : Int))).f0).size ≤ 9223372036854775807 then (escape_Next.f k (bytesOf ((rd_T38 t171 (Int.tmod (wrap64 (a0)) (t171.length : Int))).f0)) 1 a2_0 a2_1) else none).bind fun bt189 => ((amanuensislaw14_answers.f k).bind fun t197 => (if t197 = true then (if bt179.2.2.1 = 0 then (if (bt179.2.2.2.1 == 5 && (bt179.2.2.2.2 == 1)) = true then (if bt189.2.2.1 = 0 then (some (bt189.2.2.2.1 == 1 && (bt189.2.2.2.2 == 1))) else (some false)) else (some false)) else (some false)) else (some false))))) else (none)) else (none)) else (none)) else (if 0 ≤ (Int.tmod (wrap64 (a1)) (((rd_T38 t171 (Int.tmod (wrap64 (a0)) (t171.length : Int))).f0).size : Int)) then (if (Int.tmod (wrap64 (a1)) (((rd_T38 t171 (Int.tmod (wrap64 (a0)) (t171.length : Int))).f0).size : Int)) ≤ (((rd_T38 t171 (Int.tmod (wrap64 (a0)) (t171.length : Int))).f0).size : Int) then (if 1 + (((rd_T38 t171 (Int.tmod (wrap64 (a0)) (t171.length : Int))).f0).extract 0 ((Int.tmod (wrap64 (a1)) (((rd_T38 t171 (Int.tmod (wrap64 (a0)) (t171.length : Int))).f0).size : Int)) : Int).toNat).size ≤ 9223372036854775807 then ((if ((⟨#[97]⟩ : ByteArray) ++ ((rd_T38 t171 (Int.tmod (wrap64 (a0)) (t171.length : Int))).f0).extract 0 ((Int.tmod (wrap64 (a1)) (((rd_T38 t171 (Int.tmod (wrap64 (a0)) (t171.length : Int))).f0).size : Int)) : Int).toNat).size ≤ 9223372036854775807 then (escape_Next.f k (bytesOf ((⟨#[97]⟩ : ByteArray) ++ ((rd_T38 t171 (Int.tmod (wrap64 (a0)) (t171.length : Int))).f0).extract 0 ((Int.tmod (wrap64 (a1)) (((rd_T38 t171 (Int.tmod (wrap64 (a0)) (t171.length : Int))).f0).size : Int)) : Int).toNat)) 1 a2_0 a2_1) else none).bind fun bt201 => ((if ((rd_T38 t171 (Int.tmod (wrap64 (a0)) (t171.length : Int))).f0).size ≤ 9223372036854775807 then (escape_Next.f k (bytesOf ((rd_T38 t171 (Int.tmod (wrap64 (a0)) (t171.length : Int))).f0)) 1 a2_0 a2_1) else none).bind fun bt211 => ((amanuensislaw14_answers.f k).bind fun t219 => (if t219 = true then (if bt201.2.2.1 = 0 then (if (bt201.2.2.2.1 == 5 && (bt201.2.2.2.2 == 1)) = true then (if bt211.2.2.1 = 0 then (some (bt211.2.2.2.1 == 1 && (bt211.2.2.2.2 == 1))) else (some false)) else (some false)) else (some false)) else (some false))))) else (none)) else (none)) else (none)))) else (none)) else (none))) = some r := H
  have A4 := Aside0.mk A40
  clear A40
  by_cases c5 : (t171.length : Int) = 0
  · rw [if_pos c5] at H
    exact absurd H (by simp)
  · rw [if_neg c5] at H
    have c5b0 : ((t171.length : Int) == 0) = false := beq_eq_false_iff_ne.mpr c5
    have c5b1 : ((t171.length : Int) != 0) = true := bne_iff_ne.mpr c5
    have c5b2 : ¬ (t171 = []) := fun h_ => c5 (by rw [h_]; rfl)
    obtain ⟨ji6, hji6⟩ : ∃ j_ : Int, (Int.tmod (wrap64 (a0)) (t171.length : Int)) = j_ := ⟨_, rfl⟩
    replace H : (if 0 ≤ (ji6) then (if (ji6) < (t171.length : Int) then (if (((rd_T38 t171 (ji6)).f0).size : Int) = 0 then (none) else (if (Int.tmod (wrap64 (a1)) (((rd_T38 t171 (ji6)).f0).size : Int)) = 0 then (if 0 ≤ 1 then (if 1 ≤ (((rd_T38 t171 (ji6)).f0).size : Int) then (if 1 + (((rd_T38 t171 (ji6)).f0).extract 0 1).size ≤ 9223372036854775807 then ((if ((⟨#[97]⟩ : ByteArray) ++ ((rd_T38 t171 (ji6)).f0).extract 0 1).size ≤ 9223372036854775807 then (escape_Next.f k (bytesOf ((⟨#[97]⟩ : ByteArray) ++ ((rd_T38 t171 (ji6)).f0).extract 0 1)) 1 a2_0 a2_1) else none).bind fun bt179 => ((if ((rd_T38 t171 (ji6)).f0).size ≤ 9223372036854775807 then (escape_Next.f k (bytesOf ((rd_T38 t171 (ji6)).f0)) 1 a2_0 a2_1) else none).bind fun bt189 => ((amanuensislaw14_answers.f k).bind fun t197 => (if t197 = true then (if bt179.2.2.1 = 0 then (if (bt179.2.2.2.1 == 5 && (bt179.2.2.2.2 == 1)) = true then (if bt189.2.2.1 = 0 then (some (bt189.2.2.2.1 == 1 && (bt189.2.2.2.2 == 1))) else (some false)) else (some false)) else (some false)) else (some false))))) else (none)) else (none)) else (none)) else (if 0 ≤ (Int.tmod (wrap64 (a1)) (((rd_T38 t171 (ji6)).f0).size : Int)) then (if (Int.tmod (wrap64 (a1)) (((rd_T38 t171 (ji6)).f0).size : Int)) ≤ (((rd_T38 t171 (ji6)).f0).size : Int) then (if 1 + (((rd_T38 t171 (ji6)).f0).extract 0 ((Int.tmod (wrap64 (a1)) (((rd_T38 t171 (ji6)).f0).size : Int)) : Int).toNat).size ≤ 9223372036854775807 then ((if ((⟨#[97]⟩ : ByteArray) ++ ((rd_T38 t171 (ji6)).f0).extract 0 ((Int.tmod (wrap64 (a1)) (((rd_T38 t171 (ji6)).f0).size : Int)) : Int).toNat).size ≤ 9223372036854775807 then (escape_Next.f k (bytesOf ((⟨#[97]⟩ : ByteArray) ++ ((rd_T38 t171 (ji6)).f0).extract 0 ((Int.tmod (wrap64 (a1)) (((rd_T38 t171 (ji6)).f0).size : Int)) : Int).toNat)) 1 a2_0 a2_1) else none).bind fun bt201 => ((if ((rd_T38 t171 (ji6)).f0).size ≤ 9223372036854775807 then (escape_Next.f k (bytesOf ((rd_T38 t171 (ji6)).f0)) 1 a2_0 a2_1) else none).bind fun bt211 => ((amanuensislaw14_answers.f k).bind fun t219 => (if t219 = true then (if bt201.2.2.1 = 0 then (if (bt201.2.2.2.1 == 5 && (bt201.2.2.2.2 == 1)) = true then (if bt211.2.2.1 = 0 then (some (bt211.2.2.2.1 == 1 && (bt211.2.2.2.2 == 1))) else (some false)) else (some false)) else (some false)) else (some false))))) else (none)) else (none)) else (none)))) else (none)) else (none)) = some r := by first | (rw [hji6] at H; exact H) | (simp only [hji6] at H ⊢; exact H)
    (try rw [hji6] at A4)
    by_cases c7 : 0 ≤ (ji6)
    · rw [if_pos c7] at H
      have c7b0 : decide (0 ≤ (ji6)) = true := decide_eq_true c7
      clear c7
      by_cases c8 : (ji6) < (t171.length : Int)
      · rw [if_pos c8] at H
        have c8b0 : decide ((ji6) < (t171.length : Int)) = true := decide_eq_true c8
        clear c8
        by_cases c9 : (((rd_T38 t171 (ji6)).f0).size : Int) = 0
        · rw [if_pos c9] at H
          exact absurd H (by simp)
        · rw [if_neg c9] at H
          have c9b0 : ((((rd_T38 t171 (ji6)).f0).size : Int) == 0) = false := beq_eq_false_iff_ne.mpr c9
          have c9b1 : ((((rd_T38 t171 (ji6)).f0).size : Int) != 0) = true := bne_iff_ne.mpr c9
          by_cases c10 : (Int.tmod (wrap64 (a1)) (((rd_T38 t171 (ji6)).f0).size : Int)) = 0
          · rw [if_pos c10] at H
            have c10b0 : ((Int.tmod (wrap64 (a1)) (((rd_T38 t171 (ji6)).f0).size : Int)) == 0) = true := beq_iff_eq.mpr c10
            have c10b1 : ((Int.tmod (wrap64 (a1)) (((rd_T38 t171 (ji6)).f0).size : Int)) != 0) = false := bne_eq_false_iff_eq.mpr c10
            clear c10
            by_cases c11 : 0 ≤ 1
            · rw [if_pos c11] at H
              have c11b0 := eq_true c11
              have c11b1 : decide (0 ≤ 1) = true := decide_eq_true c11
              clear c11
              by_cases c12 : 1 ≤ (((rd_T38 t171 (ji6)).f0).size : Int)
              · rw [if_pos c12] at H
                have c12b0 := eq_true c12
                have c12b1 : decide (1 ≤ (((rd_T38 t171 (ji6)).f0).size : Int)) = true := decide_eq_true c12
                clear c12
                by_cases c13 : 1 + (((rd_T38 t171 (ji6)).f0).extract 0 1).size ≤ 9223372036854775807
                · rw [if_pos c13] at H
                  have c13b0 := eq_true c13
                  have c13b1 : decide (1 + (((rd_T38 t171 (ji6)).f0).extract 0 1).size ≤ 9223372036854775807) = true := decide_eq_true c13
                  try have c13b2 : (9223372036854775807 < 1 + (((rd_T38 t171 (ji6)).f0).extract 0 1).size) = False := eq_false (Nat.not_lt.2 c13)
                  have c13b3 : (9223372036854775807 < 1 + min 1 ((rd_T38 t171 (ji6)).f0).size) = False := eq_false (by have h_ := c13; rw [ByteArray.size_extract] at h_; omega)
                  have SBy176 : ((⟨#[97]⟩ : ByteArray) ++ ((rd_T38 t171 (ji6)).f0).extract 0 1).size ≤ 9223372036854775807 := by
                    by_cases hc_ : ((⟨#[97]⟩ : ByteArray) ++ ((rd_T38 t171 (ji6)).f0).extract 0 1).size ≤ 9223372036854775807
                    · exact hc_
                    · rw [if_neg hc_] at H; exact absurd H (by simp)
                  rw [if_pos SBy176] at H
                  obtain ⟨y176, hy176⟩ : ∃ y_ : List Int, y_ = bytesOf ((⟨#[97]⟩ : ByteArray) ++ ((rd_T38 t171 (ji6)).f0).extract 0 1) := ⟨_, rfl⟩
                  replace H : ((escape_Next.f k y176 1 a2_0 a2_1).bind fun bt179 => ((if ((rd_T38 t171 (ji6)).f0).size ≤ 9223372036854775807 then (escape_Next.f k (bytesOf ((rd_T38 t171 (ji6)).f0)) 1 a2_0 a2_1) else none).bind fun bt189 => ((amanuensislaw14_answers.f k).bind fun t197 => (if t197 = true then (if bt179.2.2.1 = 0 then (if (bt179.2.2.2.1 == 5 && (bt179.2.2.2.2 == 1)) = true then (if bt189.2.2.1 = 0 then (some (bt189.2.2.2.1 == 1 && (bt189.2.2.2.2 == 1))) else (some false)) else (some false)) else (some false)) else (some false))))) = some r := by first | (rw [hy176]; with_reducible exact H) | (have H2_ := (Option.bind_some _ _).symm.trans H; rw [hy176]; with_reducible exact H2_) | (have H2_ := (Option.bind_some _ _).symm.trans H; with_reducible exact H2_) | with_reducible exact H | (rw [hy176]; exact H) | exact H
                  have Ny176 := Aside0.mk hy176
                  clear hy176
                  replace H := Option.bind_eq_some_iff.mp H
                  obtain ⟨⟨t179, t180, t181, t182, t183⟩, A140, H⟩ := H
                  replace H : ((if ((rd_T38 t171 (ji6)).f0).size ≤ 9223372036854775807 then (escape_Next.f k (bytesOf ((rd_T38 t171 (ji6)).f0)) 1 a2_0 a2_1) else none).bind fun bt189 => ((amanuensislaw14_answers.f k).bind fun t197 => (if t197 = true then (if t181 = 0 then (if (t182 == 5 && (t183 == 1)) = true then (if bt189.2.2.1 = 0 then (some (bt189.2.2.2.1 == 1 && (bt189.2.2.2.2 == 1))) else (some false)) else (some false)) else (some false)) else (some false)))) = some r := H
                  have A14 := Aside0.mk A140
                  clear A140
                  have SBy186 : ((rd_T38 t171 (ji6)).f0).size ≤ 9223372036854775807 := by
                    by_cases hc_ : ((rd_T38 t171 (ji6)).f0).size ≤ 9223372036854775807
                    · exact hc_
                    · rw [if_neg hc_] at H; exact absurd H (by simp)
                  rw [if_pos SBy186] at H
                  obtain ⟨y186, hy186⟩ : ∃ y_ : List Int, y_ = bytesOf ((rd_T38 t171 (ji6)).f0) := ⟨_, rfl⟩
                  replace H : ((escape_Next.f k y186 1 a2_0 a2_1).bind fun bt189 => ((amanuensislaw14_answers.f k).bind fun t197 => (if t197 = true then (if t181 = 0 then (if (t182 == 5 && (t183 == 1)) = true then (if bt189.2.2.1 = 0 then (some (bt189.2.2.2.1 == 1 && (bt189.2.2.2.2 == 1))) else (some false)) else (some false)) else (some false)) else (some false)))) = some r := by first | (rw [hy186]; with_reducible exact H) | (have H2_ := (Option.bind_some _ _).symm.trans H; rw [hy186]; with_reducible exact H2_) | (have H2_ := (Option.bind_some _ _).symm.trans H; with_reducible exact H2_) | with_reducible exact H | (rw [hy186]; exact H) | exact H
                  have Ny186 := Aside0.mk hy186
                  clear hy186
                  replace H := Option.bind_eq_some_iff.mp H
                  obtain ⟨⟨t189, t190, t191, t192, t193⟩, A150, H⟩ := H
                  replace H : ((amanuensislaw14_answers.f k).bind fun t197 => (if t197 = true then (if t181 = 0 then (if (t182 == 5 && (t183 == 1)) = true then (if t191 = 0 then (some (t192 == 1 && (t193 == 1))) else (some false)) else (some false)) else (some false)) else (some false))) = some r := H
                  have A15 := Aside0.mk A150
                  clear A150
                  replace H := Option.bind_eq_some_iff.mp H
                  obtain ⟨t197, A160, H⟩ := H
                  replace H : (if t197 = true then (if t181 = 0 then (if (t182 == 5 && (t183 == 1)) = true then (if t191 = 0 then (some (t192 == 1 && (t193 == 1))) else (some false)) else (some false)) else (some false)) else (some false)) = some r := H
                  have A16 := Aside0.mk A160
                  clear A160
                  by_cases c17 : t197 = true
                  · subst c17
                    have H1 : (if t181 = 0 then (if (t182 == 5 && (t183 == 1)) = true then (if t191 = 0 then (some (t192 == 1 && (t193 == 1))) else (some false)) else (some false)) else (some false)) = some r := by rw [if_pos rfl] at H; exact H
                    clear H
                    have H := H1
                    clear H1
                    by_cases c18 : t181 = 0
                    · rw [if_pos c18] at H
                      have c18b0 : (t181 == 0) = true := beq_iff_eq.mpr c18
                      have c18b1 : (t181 != 0) = false := bne_eq_false_iff_eq.mpr c18
                      clear c18
                      by_cases c19 : (t182 == 5 && (t183 == 1)) = true
                      · rw [if_pos c19] at H
                        have c19b0 : (t182 == 5 && (t183 == 1)) = true := c19
                        (try (have c19b1 : decide (t182 = 5 && (t183 == 1)) = true := by simpa using c19))
                        (try (have c19b2 : (t182 == 5 && (t183 == 1)) = true := by simpa using c19))
                        clear c19
                        by_cases c20 : t191 = 0
                        · rw [if_pos c20] at H
                          have c20b0 : (t191 == 0) = true := beq_iff_eq.mpr c20
                          have c20b1 : (t191 != 0) = false := bne_eq_false_iff_eq.mpr c20
                          clear c20
                          obtain rfl := Option.some.inj H
                          have kb := fun (s : ByteArray) (W : World) => print_bytes (P := Try.prog) 9 22 5 Try.underlying9 Try.underlying22 Try.underlying5 s W
                          go_enter Try.func9, Try.ntmps9
                          try go_wp2_with (first | ((with_reducible refine gate_dst (N := 5) rfl ?_); refine box_event ?hg (N := 5) ?hd (cs := #[.int .i64 a2_0, .int .i64 a2_1]) (t := 27) ?hr ?_; (case hd => rfl); (case hg => rfl); (case hr => first | (go_simp; done) | (go_simp; rfl)); intro gb170 hg w21 hbox hb; have n0_ := Aside0.mk (below_step (by repeat (first | (with_reducible first | exact HB.out | apply below_alloc | apply pw_below_drewN | apply below_drew1) | exact HB.out)) hb); have n1_ := Aside0.mk (hbox); have n2_ := Aside0.mk ((by rw [hg]; exact (below_size (by repeat (first | (with_reducible first | exact HB.out | apply below_alloc | apply pw_below_drewN | apply below_drew1) | exact HB.out))) : w.heap.size ≤ gb170)); have n3_ := Aside0.mk ((by rw [hg]; exact (below_size (by repeat (first | (with_reducible first | exact HB.out | apply below_alloc | apply pw_below_drewN | apply below_drew1) | exact HB.out))) : w.heap.size ≤ gb170)); clear HB; have HB := n0_; have BK170 := n1_; have GW170 := n2_; have GE170 := n3_; clear n0_ n1_ n2_ n3_; clear hb hbox hg) | ((with_reducible refine gate_callee (f := 15) rfl ?_); refine goesL_ (some 17) rfl rfl Try.func15 (by kernel_rfl) rfl #[] rfl (by (try simp only [List.map_toArray, List.map_cons, List.map_nil]); first | done | rfl | (simp only [List.length_drop, List.length_take]; rfl)) ?_; (with_reducible refine (amanuensisref08_Escapes.calls k  t171 _ A4.out).mono ?_); rintro e w22 ⟨v172, rfl, ho0, hb⟩; refine ⟨_, rfl, ?_⟩; have n0_ := Aside0.mk (Kd.R_lower ho0 (below_size (by repeat (first | (with_reducible first | exact HB.out | apply below_alloc | apply pw_below_drewN | apply below_drew1 | refine below_set ?_ GE170.out) | exact HB.out)))); have n1_ := Aside0.mk (blk_below (g := gb170) (o := .cells #[.int .i64 a2_0, .int .i64 a2_1] 27 (0, 0)) (by (with_reducible repeat (first | refine blk_drewN ?_ _ | refine blk_drew ?_ | refine blk_alloc ?_ _)); exact BK170.out) hb); have n2_ := Aside0.mk (below_step (by repeat (first | (with_reducible first | exact HB.out | apply below_alloc | apply pw_below_drewN | apply below_drew1 | refine below_set ?_ GE170.out) | exact HB.out)) hb); clear BK170; clear HB; have HO173 := n0_; have BK170 := n1_; have HB := n2_; clear n0_ n1_ n2_; (try clear hb); (try clear hb2); (try clear hk); (try clear hi); (try clear ho0); obtain ⟨Ao23, co23, eo23⟩ := Kd.R_slice HO173.out; subst eo23; have p174 : 0 ≤ ((ji6) : Int) := of_decide_eq_true (by first | (with_reducible assumption) | assumption); have q174 : (ji6) < (t171.length : Int) := of_decide_eq_true (by first | (with_reducible assumption) | assumption); obtain ⟨ad174, e174, hx174_0, hx174_1, hx174_2⟩ := at_T38 (Kd.R_reads' HO173.out).2.2 (ji6) p174 q174; cases e174; replace p174 := eq_true p174; replace q174 := eq_true q174) | ((with_reducible refine gate_dst (N := 8) rfl ?_); refine box_event ?hg (N := 8) ?hd (cs := #[.string (⟨#[]⟩ : ByteArray), .int .i64 0, .int .i64 0]) (t := 38) ?hr ?_; (case hd => rfl); (case hg => rfl); (case hr => first | (go_simp; done) | (go_simp; rfl)); intro gb175 hg w24 hbox hb; have n0_ := Aside0.mk (Kd.R_below (Kd.R_elderB (by (with_reducible repeat (first | apply Kd.R_alloc | apply Kd.R_drewN | apply Kd.R_drew)); exact HO173.out) gb175 (Nat.le_of_eq hg.symm)) hb); have n1_ := Aside0.mk (blk_below (g := gb170) (o := .cells #[.int .i64 a2_0, .int .i64 a2_1] 27 (0, 0)) (by (with_reducible repeat (first | refine blk_drewN ?_ _ | refine blk_drew ?_ | refine blk_alloc ?_ _)); exact BK170.out) hb); have n2_ := Aside0.mk (below_step (by repeat (first | (with_reducible first | exact HB.out | apply below_alloc | apply pw_below_drewN | apply below_drew1 | refine below_set ?_ GE170.out) | exact HB.out)) hb); have n3_ := Aside0.mk (hbox); have n4_ := Aside0.mk ((by rw [hg]; exact (below_size (by repeat (first | (with_reducible first | exact HB.out | apply below_alloc | apply pw_below_drewN | apply below_drew1 | refine below_set ?_ GE170.out) | exact HB.out))) : w.heap.size ≤ gb175)); have n5_ := Aside0.mk ((by rw [hg]; exact (below_size (by repeat (first | (with_reducible first | exact HB.out | apply below_alloc | apply pw_below_drewN | apply below_drew1 | refine below_set ?_ GE170.out) | exact HB.out))) : w.heap.size ≤ gb175)); have n6_ := Aside0.mk ((by rw [hg]; exact Nat.ne_of_lt (blk_lt (g := gb170) (o := .cells #[.int .i64 a2_0, .int .i64 a2_1] 27 (0, 0)) (by (with_reducible repeat (first | refine blk_drewN ?_ _ | refine blk_drew ?_ | refine blk_alloc ?_ _)); exact BK170.out)) : gb170 ≠ gb175)); have n7_ := Aside0.mk ((by rw [hg]; exact Nat.ne_of_gt (blk_lt (g := gb170) (o := .cells #[.int .i64 a2_0, .int .i64 a2_1] 27 (0, 0)) (by (with_reducible repeat (first | refine blk_drewN ?_ _ | refine blk_drew ?_ | refine blk_alloc ?_ _)); exact BK170.out)) : gb175 ≠ gb170)); clear HO173; clear BK170; clear HB; have HO173 := n0_; have BK170 := n1_; have HB := n2_; have BK175 := n3_; have GW175 := n4_; have GE175 := n5_; have NB170_175 := n6_; have NB175_170 := n7_; clear n0_ n1_ n2_ n3_ n4_ n5_ n6_ n7_; clear hb hbox hg; have hnb25 := NB175_170.out; have hnc25 := NB170_175.out; have hcz26_0 : w24.cell? ⟨gb175, 0, none⟩ = some (.string (⟨#[]⟩ : ByteArray)) := (blk_cell BK175.out 0).trans rfl; have hcz26_1 : w24.cell? ⟨gb175, 1, none⟩ = some (.int .i64 0) := (blk_cell BK175.out 1).trans rfl; have hcz26_2 : w24.cell? ⟨gb175, 2, none⟩ = some (.int .i64 0) := (blk_cell BK175.out 2).trans rfl; have hfz26_0 := blk_frozen BK175.out 0; have hfz26_1 := blk_frozen BK175.out 1; have hfz26_2 := blk_frozen BK175.out 2))
                          have n0_ : Aside0 (Kd.R k38 38 (((w24.setCell ⟨gb175, 0, none⟩ (.string ((rd_T38 t171 (ji6)).f0))).setCell ⟨gb175, 1, none⟩ (.int .i64 ((rd_T38 t171 (ji6)).f1))).setCell ⟨gb175, 2, none⟩ (.int .i64 ((rd_T38 t171 (ji6)).f2))) w.heap.size (fun k_ => k_ ≠ gb175) (.slice (some ad174) t171.length co23) t171) := ⟨by (with_reducible repeat (first | apply Kd.R_alloc | apply Kd.R_drewN | apply Kd.R_drew)); exact Kd.R_mono (Kd.R_far (p := ⟨gb175, 2, none⟩) (Kd.R_far (p := ⟨gb175, 1, none⟩) (Kd.R_far (p := ⟨gb175, 0, none⟩) (Kd.R_mono HO173.out (fun k_ hk => (⟨hk, hk.2⟩ : _ ∧ k_ ≠ gb175))) (fun _ hk => hk.2) (.string ((rd_T38 t171 (ji6)).f0))) (fun _ hk => hk.2) (.int .i64 ((rd_T38 t171 (ji6)).f1))) (fun _ hk => hk.2) (.int .i64 ((rd_T38 t171 (ji6)).f2))) (fun _ hk => hk.1.2)⟩
                          have n1_ : Aside0 ((((w24.setCell ⟨gb175, 0, none⟩ (.string ((rd_T38 t171 (ji6)).f0))).setCell ⟨gb175, 1, none⟩ (.int .i64 ((rd_T38 t171 (ji6)).f1))).setCell ⟨gb175, 2, none⟩ (.int .i64 ((rd_T38 t171 (ji6)).f2))).heap[gb170]? = some (.cells #[.int .i64 a2_0, .int .i64 a2_1] 27 (0, 0))) := ⟨by (with_reducible repeat (first | refine blk_drewN ?_ _ | refine blk_drew ?_ | refine blk_alloc ?_ _)); refine blk_far ?_ NB170_175.out _; (with_reducible repeat (first | refine blk_drewN ?_ _ | refine blk_drew ?_ | refine blk_alloc ?_ _)); refine blk_far ?_ NB170_175.out _; (with_reducible repeat (first | refine blk_drewN ?_ _ | refine blk_drew ?_ | refine blk_alloc ?_ _)); refine blk_far ?_ NB170_175.out _; (with_reducible repeat (first | refine blk_drewN ?_ _ | refine blk_drew ?_ | refine blk_alloc ?_ _)); exact BK170.out⟩
                          have n2_ : Aside0 ((((w24.setCell ⟨gb175, 0, none⟩ (.string ((rd_T38 t171 (ji6)).f0))).setCell ⟨gb175, 1, none⟩ (.int .i64 ((rd_T38 t171 (ji6)).f1))).setCell ⟨gb175, 2, none⟩ (.int .i64 ((rd_T38 t171 (ji6)).f2))).heap[gb175]? = some (.cells #[.string ((rd_T38 t171 (ji6)).f0), .int .i64 ((rd_T38 t171 (ji6)).f1), .int .i64 ((rd_T38 t171 (ji6)).f2)] 38 (0, 0))) := ⟨by (with_reducible repeat (first | refine blk_drewN ?_ _ | refine blk_drew ?_ | refine blk_alloc ?_ _)); refine blk_put (cs := #[.string ((rd_T38 t171 (ji6)).f0), .int .i64 ((rd_T38 t171 (ji6)).f1), .int .i64 0]) ?_ 2 _ rfl; (with_reducible repeat (first | refine blk_drewN ?_ _ | refine blk_drew ?_ | refine blk_alloc ?_ _)); refine blk_put (cs := #[.string ((rd_T38 t171 (ji6)).f0), .int .i64 0, .int .i64 0]) ?_ 1 _ rfl; (with_reducible repeat (first | refine blk_drewN ?_ _ | refine blk_drew ?_ | refine blk_alloc ?_ _)); refine blk_put (cs := #[.string (⟨#[]⟩ : ByteArray), .int .i64 0, .int .i64 0]) ?_ 0 _ rfl; (with_reducible repeat (first | refine blk_drewN ?_ _ | refine blk_drew ?_ | refine blk_alloc ?_ _)); exact BK175.out⟩
                          have n3_ : Aside0 (Below w.heap.size w (((w24.setCell ⟨gb175, 0, none⟩ (.string ((rd_T38 t171 (ji6)).f0))).setCell ⟨gb175, 1, none⟩ (.int .i64 ((rd_T38 t171 (ji6)).f1))).setCell ⟨gb175, 2, none⟩ (.int .i64 ((rd_T38 t171 (ji6)).f2)))) := ⟨by repeat (first | (with_reducible first | exact HB.out | apply below_alloc | apply pw_below_drewN | apply below_drew1 | refine below_set ?_ GE170.out | refine below_set ?_ GE175.out) | exact HB.out)⟩
                          (try clear HO173)
                          (try clear BK170)
                          (try clear BK175)
                          (try clear HB)
                          generalize (((w24.setCell ⟨gb175, 0, none⟩ (.string ((rd_T38 t171 (ji6)).f0))).setCell ⟨gb175, 1, none⟩ (.int .i64 ((rd_T38 t171 (ji6)).f1))).setCell ⟨gb175, 2, none⟩ (.int .i64 ((rd_T38 t171 (ji6)).f2))) = w27 at n0_ n1_ n2_ n3_ ⊢
                          have HO173 := n0_
                          have BK170 := n1_
                          have BK175 := n2_
                          have HB := n3_
                          clear n0_ n1_ n2_ n3_
                          have n0_ := Aside0.mk (Kd.R_drew HO173.out)
                          have n1_ := Aside0.mk (blk_drew BK170.out)
                          have n2_ := Aside0.mk (blk_drew BK175.out)
                          have n3_ := Aside0.mk (below_drew1 HB.out)
                          clear HO173
                          clear BK170
                          clear BK175
                          clear HB
                          have HO173 := n0_
                          have BK170 := n1_
                          have BK175 := n2_
                          have HB := n3_
                          clear n0_ n1_ n2_ n3_
                          refine start_ (n := 17) (S := fun w' => w'.cell? ⟨gb175, 0, none⟩ = some (.string ((rd_T38 t171 (ji6)).f0)) ∧ w'.cell? ⟨gb175, 1, none⟩ = some (.int .i64 ((rd_T38 t171 (ji6)).f1)) ∧ w'.cell? ⟨gb175, 2, none⟩ = some (.int .i64 ((rd_T38 t171 (ji6)).f2)) ∧ w'.cell? ⟨gb170, 0, none⟩ = some (.int .i64 a2_0) ∧ w'.cell? ⟨gb170, 1, none⟩ = some (.int .i64 a2_1)) (ds := []) #[false, false, false, false, false, false, false, false, false, false, false, false, false, false, false, false, false] (by kernel_rfl) rfl rfl ⟨(blk_cell BK175.out 0).trans rfl, (blk_cell BK175.out 1).trans rfl, (blk_cell BK175.out 2).trans rfl, (blk_cell BK170.out 0).trans rfl, (blk_cell BK170.out 1).trans rfl⟩ (fun hHeld => ?_); refine with_tabW amanuensislaw14_EscapeCut.tab6 amanuensislaw14_EscapeCut.bits6 (fun HT_ HW_ => ?_)
                          generalize w27.drew = w28 at HO173 BK170 BK175 HB hHeld ⊢
                          refine pure_ (i := 0) (N := some 35) (v := ?_) (a' := ?_) #[true, false, false, false, false, false, false, false, false, false, false, false, false, false, false, false, false] rfl rfl (any_of HT_.out (by kernel_rfl)) (fun _ _ _ h => h) (Or.inl ⟨by rfl, ?_⟩) ?_ ?_
                          rotate_left
                          · intro w'
                            go_simp
                            with_reducible rfl
                          rotate_left
                          · simp only [Act.put, List.setIfInBounds_toArray, List.set_cons_zero, List.set_cons_succ, i64_w, i32_w]
                            rfl
                          refine pure_ (i := 2) (N := some 37) (v := ?_) (a' := ?_) #[true, false, true, false, false, false, false, false, false, false, false, false, false, false, false, false, false] rfl rfl (any_of HT_.out (by kernel_rfl)) (fun _ _ _ h => h) (Or.inl ⟨by rfl, ?_⟩) ?_ ?_
                          rotate_left
                          · intro w'
                            go_simp
                            with_reducible rfl
                          rotate_left
                          · simp only [Act.put, List.setIfInBounds_toArray, List.set_cons_zero, List.set_cons_succ, i64_w, i32_w]
                            rfl
                          refine take_ (i := 1) (N := some 36) (v := ?_) (a' := ?_) #[true, true, true, false, false, false, false, false, false, false, false, false, false, false, false, false, false] rfl rfl (take_ofW HT_.out HW_.out (by kernel_rfl)) (fun _ _ _ h => h) (Or.inl ⟨by rfl, ?_⟩) hHeld ?_ ?_
                          rotate_left
                          · rintro w' ⟨s0, s1, s2, s3, s4⟩
                            go_simp
                            with_reducible rfl
                          rotate_left
                          · simp only [Act.put, List.setIfInBounds_toArray, List.set_cons_zero, List.set_cons_succ, i64_w, i32_w]
                            rfl
                          refine pure_ (i := 3) (N := some 38) (v := ?_) (a' := ?_) #[true, true, true, true, false, false, false, false, false, false, false, false, false, false, false, false, false] rfl rfl (any_of HT_.out (by kernel_rfl)) (fun _ _ _ h => h) (Or.inl ⟨by rfl, ?_⟩) ?_ ?_
                          rotate_left
                          · intro w'
                            go_simp
                            with_reducible rfl
                          rotate_left
                          · simp only [Act.put, List.setIfInBounds_toArray, List.set_cons_zero, List.set_cons_succ, i64_w, i32_w]
                            rfl
                          refine pure_ (i := 4) (N := some 39) (v := ?_) (a' := ?_) #[true, true, true, true, true, false, false, false, false, false, false, false, false, false, false, false, false] rfl rfl (any_of HT_.out (by kernel_rfl)) (fun _ _ _ h => h) (Or.inl ⟨by rfl, ?_⟩) ?_ ?_
                          rotate_left
                          · intro w'
                            go_simp
                            with_reducible rfl
                          rotate_left
                          · simp only [Act.put, List.setIfInBounds_toArray, List.set_cons_zero, List.set_cons_succ, i64_w, i32_w]
                            rfl
                          refine take_ (i := 6) (N := some 41) (v := ?_) (a' := ?_) #[true, true, true, true, true, false, true, false, false, false, false, false, false, false, false, false, false] rfl rfl (take_ofW HT_.out HW_.out (by kernel_rfl)) (fun _ _ _ h => h) (Or.inl ⟨by rfl, ?_⟩) hHeld ?_ ?_
                          rotate_left
                          · rintro w' ⟨s0, s1, s2, s3, s4⟩
                            go_simp
                            with_reducible rfl
                          rotate_left
                          · simp only [Act.put, List.setIfInBounds_toArray, List.set_cons_zero, List.set_cons_succ, i64_w, i32_w]
                            rfl
                          refine join_ (σ := Value × Nat × Nat) 3 #[true, true, true, true, true, true, true, true, true, true, true, true, true, true, false, false, false] (fun s_ => [(40, s_.1), (42, .tuple #[.agg #[.int .i64 t179, .int .i64 t180], .int .i64 t181, .agg #[.int .i64 t182, .int .i64 t183]]), (10, .pointer (some ⟨s_.2.1, 0, none⟩)), (12, .pointer (some ⟨s_.2.2, 0, none⟩)), (34, .tuple #[.agg #[.int .i64 t179, .int .i64 t180], .int .i64 t181, .agg #[.int .i64 t182, .int .i64 t183]]), (43, .agg #[.int .i64 t179, .int .i64 t180]), (44, .int .i64 t181), (45, .agg #[.int .i64 t182, .int .i64 t183])]) (fun s_ w' => (w'.cell? ⟨gb175, 0, none⟩ = some (.string ((rd_T38 t171 (ji6)).f0)) ∧ w'.cell? ⟨gb175, 1, none⟩ = some (.int .i64 ((rd_T38 t171 (ji6)).f1)) ∧ w'.cell? ⟨gb175, 2, none⟩ = some (.int .i64 ((rd_T38 t171 (ji6)).f2)) ∧ w'.cell? ⟨gb170, 0, none⟩ = some (.int .i64 a2_0) ∧ w'.cell? ⟨gb170, 1, none⟩ = some (.int .i64 a2_1)) ∧ (Kd.R k38 38 w' w.heap.size (fun k_ => k_ ≠ gb175) (.slice (some ad174) t171.length co23) t171) ∧ (MR 5 w' w.heap.size (fun _ => True) s_.1 y176) ∧ (w'.heap[gb170]? = some (.cells #[.int .i64 a2_0, .int .i64 a2_1] 27 (0, 0))) ∧ (w'.heap[gb175]? = some (.cells #[.string ((rd_T38 t171 (ji6)).f0), .int .i64 ((rd_T38 t171 (ji6)).f1), .int .i64 ((rd_T38 t171 (ji6)).f2)] 38 (0, 0))) ∧ (w'.heap[s_.2.1]? = some (.cells #[.int .i64 0, .int .i64 0] 27 (0, 0))) ∧ (w'.heap[s_.2.2]? = some (.cells #[.int .i64 0, .int .i64 0] 30 (0, 0))) ∧ (w.heap.size ≤ s_.2.1) ∧ (w.heap.size ≤ s_.2.1) ∧ (gb170 ≠ s_.2.1) ∧ (s_.2.1 ≠ gb170) ∧ (gb175 ≠ s_.2.1) ∧ (s_.2.1 ≠ gb175) ∧ (s_.2.2 ≠ s_.2.1) ∧ (s_.2.1 ≠ s_.2.2) ∧ (w.heap.size ≤ s_.2.2) ∧ (w.heap.size ≤ s_.2.2) ∧ (gb170 ≠ s_.2.2) ∧ (s_.2.2 ≠ gb170) ∧ (gb175 ≠ s_.2.2) ∧ (s_.2.2 ≠ gb175) ∧ (Below w.heap.size w w')) ?_ ?_
                          rotate_left
                          · intro hJ5_7_12_13
                            refine join_ (σ := Value × Nat) 4 #[true, true, true, true, true, true, true, true, true, true, true, true, true, false, false, false, false] (fun s_ => [(40, s_.1), (42, .tuple #[.agg #[.int .i64 t179, .int .i64 t180], .int .i64 t181, .agg #[.int .i64 t182, .int .i64 t183]]), (10, .pointer (some ⟨s_.2, 0, none⟩)), (34, .tuple #[.agg #[.int .i64 t179, .int .i64 t180], .int .i64 t181, .agg #[.int .i64 t182, .int .i64 t183]]), (43, .agg #[.int .i64 t179, .int .i64 t180]), (44, .int .i64 t181), (45, .agg #[.int .i64 t182, .int .i64 t183])]) (fun s_ w' => (w'.cell? ⟨gb175, 0, none⟩ = some (.string ((rd_T38 t171 (ji6)).f0)) ∧ w'.cell? ⟨gb175, 1, none⟩ = some (.int .i64 ((rd_T38 t171 (ji6)).f1)) ∧ w'.cell? ⟨gb175, 2, none⟩ = some (.int .i64 ((rd_T38 t171 (ji6)).f2)) ∧ w'.cell? ⟨gb170, 0, none⟩ = some (.int .i64 a2_0) ∧ w'.cell? ⟨gb170, 1, none⟩ = some (.int .i64 a2_1)) ∧ (Kd.R k38 38 w' w.heap.size (fun k_ => k_ ≠ gb175) (.slice (some ad174) t171.length co23) t171) ∧ (MR 5 w' w.heap.size (fun _ => True) s_.1 y176) ∧ (w'.heap[gb170]? = some (.cells #[.int .i64 a2_0, .int .i64 a2_1] 27 (0, 0))) ∧ (w'.heap[gb175]? = some (.cells #[.string ((rd_T38 t171 (ji6)).f0), .int .i64 ((rd_T38 t171 (ji6)).f1), .int .i64 ((rd_T38 t171 (ji6)).f2)] 38 (0, 0))) ∧ (w'.heap[s_.2]? = some (.cells #[.int .i64 0, .int .i64 0] 27 (0, 0))) ∧ (w.heap.size ≤ s_.2) ∧ (w.heap.size ≤ s_.2) ∧ (gb170 ≠ s_.2) ∧ (s_.2 ≠ gb170) ∧ (gb175 ≠ s_.2) ∧ (s_.2 ≠ gb175) ∧ (Below w.heap.size w w')) ?_ ?_
                            rotate_left
                            · intro hJ5_7_12
                              refine join_ (σ := Value × Nat) 4 #[true, true, true, true, true, true, true, true, true, true, true, true, false, true, false, false, false] (fun s_ => [(40, s_.1), (42, .tuple #[.agg #[.int .i64 t179, .int .i64 t180], .int .i64 t181, .agg #[.int .i64 t182, .int .i64 t183]]), (12, .pointer (some ⟨s_.2, 0, none⟩)), (34, .tuple #[.agg #[.int .i64 t179, .int .i64 t180], .int .i64 t181, .agg #[.int .i64 t182, .int .i64 t183]]), (43, .agg #[.int .i64 t179, .int .i64 t180]), (44, .int .i64 t181), (45, .agg #[.int .i64 t182, .int .i64 t183])]) (fun s_ w' => (w'.cell? ⟨gb175, 0, none⟩ = some (.string ((rd_T38 t171 (ji6)).f0)) ∧ w'.cell? ⟨gb175, 1, none⟩ = some (.int .i64 ((rd_T38 t171 (ji6)).f1)) ∧ w'.cell? ⟨gb175, 2, none⟩ = some (.int .i64 ((rd_T38 t171 (ji6)).f2)) ∧ w'.cell? ⟨gb170, 0, none⟩ = some (.int .i64 a2_0) ∧ w'.cell? ⟨gb170, 1, none⟩ = some (.int .i64 a2_1)) ∧ (Kd.R k38 38 w' w.heap.size (fun k_ => k_ ≠ gb175) (.slice (some ad174) t171.length co23) t171) ∧ (MR 5 w' w.heap.size (fun _ => True) s_.1 y176) ∧ (w'.heap[gb170]? = some (.cells #[.int .i64 a2_0, .int .i64 a2_1] 27 (0, 0))) ∧ (w'.heap[gb175]? = some (.cells #[.string ((rd_T38 t171 (ji6)).f0), .int .i64 ((rd_T38 t171 (ji6)).f1), .int .i64 ((rd_T38 t171 (ji6)).f2)] 38 (0, 0))) ∧ (w'.heap[s_.2]? = some (.cells #[.int .i64 0, .int .i64 0] 30 (0, 0))) ∧ (w.heap.size ≤ s_.2) ∧ (w.heap.size ≤ s_.2) ∧ (gb170 ≠ s_.2) ∧ (s_.2 ≠ gb170) ∧ (gb175 ≠ s_.2) ∧ (s_.2 ≠ gb175) ∧ (Below w.heap.size w w')) ?_ ?_
                              rotate_left
                              · intro hJ5_7_13
                                refine join_ (σ := Value × Nat × Nat) 8 #[true, true, true, true, true, true, true, false, false, false, false, false, true, true, false, false, false] (fun s_ => [(40, s_.1), (10, .pointer (some ⟨s_.2.1, 0, none⟩)), (12, .pointer (some ⟨s_.2.2, 0, none⟩))]) (fun s_ w' => (w'.cell? ⟨gb175, 0, none⟩ = some (.string ((rd_T38 t171 (ji6)).f0)) ∧ w'.cell? ⟨gb175, 1, none⟩ = some (.int .i64 ((rd_T38 t171 (ji6)).f1)) ∧ w'.cell? ⟨gb175, 2, none⟩ = some (.int .i64 ((rd_T38 t171 (ji6)).f2)) ∧ w'.cell? ⟨gb170, 0, none⟩ = some (.int .i64 a2_0) ∧ w'.cell? ⟨gb170, 1, none⟩ = some (.int .i64 a2_1)) ∧ (Kd.R k38 38 w' w.heap.size (fun k_ => k_ ≠ gb175) (.slice (some ad174) t171.length co23) t171) ∧ (MR 5 w' w.heap.size (fun _ => True) s_.1 y176) ∧ (w'.heap[gb170]? = some (.cells #[.int .i64 a2_0, .int .i64 a2_1] 27 (0, 0))) ∧ (w'.heap[gb175]? = some (.cells #[.string ((rd_T38 t171 (ji6)).f0), .int .i64 ((rd_T38 t171 (ji6)).f1), .int .i64 ((rd_T38 t171 (ji6)).f2)] 38 (0, 0))) ∧ (w'.heap[s_.2.1]? = some (.cells #[.int .i64 0, .int .i64 0] 27 (0, 0))) ∧ (w'.heap[s_.2.2]? = some (.cells #[.int .i64 0, .int .i64 0] 30 (0, 0))) ∧ (w.heap.size ≤ s_.2.1) ∧ (w.heap.size ≤ s_.2.1) ∧ (gb170 ≠ s_.2.1) ∧ (s_.2.1 ≠ gb170) ∧ (gb175 ≠ s_.2.1) ∧ (s_.2.1 ≠ gb175) ∧ (s_.2.2 ≠ s_.2.1) ∧ (s_.2.1 ≠ s_.2.2) ∧ (w.heap.size ≤ s_.2.2) ∧ (w.heap.size ≤ s_.2.2) ∧ (gb170 ≠ s_.2.2) ∧ (s_.2.2 ≠ gb170) ∧ (gb175 ≠ s_.2.2) ∧ (s_.2.2 ≠ gb175) ∧ (Below w.heap.size w w')) ?_ ?_
                                rotate_left
                                · intro hJ5_12_13
                                  refine join_ (σ := Value) 5 #[true, true, true, true, true, true, true, true, true, true, true, true, false, false, false, false, false] (fun s_ => [(40, s_), (42, .tuple #[.agg #[.int .i64 t179, .int .i64 t180], .int .i64 t181, .agg #[.int .i64 t182, .int .i64 t183]]), (34, .tuple #[.agg #[.int .i64 t179, .int .i64 t180], .int .i64 t181, .agg #[.int .i64 t182, .int .i64 t183]]), (43, .agg #[.int .i64 t179, .int .i64 t180]), (44, .int .i64 t181), (45, .agg #[.int .i64 t182, .int .i64 t183])]) (fun s_ w' => (w'.cell? ⟨gb175, 0, none⟩ = some (.string ((rd_T38 t171 (ji6)).f0)) ∧ w'.cell? ⟨gb175, 1, none⟩ = some (.int .i64 ((rd_T38 t171 (ji6)).f1)) ∧ w'.cell? ⟨gb175, 2, none⟩ = some (.int .i64 ((rd_T38 t171 (ji6)).f2)) ∧ w'.cell? ⟨gb170, 0, none⟩ = some (.int .i64 a2_0) ∧ w'.cell? ⟨gb170, 1, none⟩ = some (.int .i64 a2_1)) ∧ (Kd.R k38 38 w' w.heap.size (fun k_ => k_ ≠ gb175) (.slice (some ad174) t171.length co23) t171) ∧ (MR 5 w' w.heap.size (fun _ => True) s_ y176) ∧ (w'.heap[gb170]? = some (.cells #[.int .i64 a2_0, .int .i64 a2_1] 27 (0, 0))) ∧ (w'.heap[gb175]? = some (.cells #[.string ((rd_T38 t171 (ji6)).f0), .int .i64 ((rd_T38 t171 (ji6)).f1), .int .i64 ((rd_T38 t171 (ji6)).f2)] 38 (0, 0))) ∧ (Below w.heap.size w w')) ?_ ?_
                                  rotate_left
                                  · intro hJ5_7
                                    refine join_ (σ := Value × Nat) 9 #[true, true, true, true, true, true, true, false, false, false, false, false, true, false, false, false, false] (fun s_ => [(40, s_.1), (10, .pointer (some ⟨s_.2, 0, none⟩))]) (fun s_ w' => (w'.cell? ⟨gb175, 0, none⟩ = some (.string ((rd_T38 t171 (ji6)).f0)) ∧ w'.cell? ⟨gb175, 1, none⟩ = some (.int .i64 ((rd_T38 t171 (ji6)).f1)) ∧ w'.cell? ⟨gb175, 2, none⟩ = some (.int .i64 ((rd_T38 t171 (ji6)).f2)) ∧ w'.cell? ⟨gb170, 0, none⟩ = some (.int .i64 a2_0) ∧ w'.cell? ⟨gb170, 1, none⟩ = some (.int .i64 a2_1)) ∧ (Kd.R k38 38 w' w.heap.size (fun k_ => k_ ≠ gb175) (.slice (some ad174) t171.length co23) t171) ∧ (MR 5 w' w.heap.size (fun _ => True) s_.1 y176) ∧ (w'.heap[gb170]? = some (.cells #[.int .i64 a2_0, .int .i64 a2_1] 27 (0, 0))) ∧ (w'.heap[gb175]? = some (.cells #[.string ((rd_T38 t171 (ji6)).f0), .int .i64 ((rd_T38 t171 (ji6)).f1), .int .i64 ((rd_T38 t171 (ji6)).f2)] 38 (0, 0))) ∧ (w'.heap[s_.2]? = some (.cells #[.int .i64 0, .int .i64 0] 27 (0, 0))) ∧ (w.heap.size ≤ s_.2) ∧ (w.heap.size ≤ s_.2) ∧ (gb170 ≠ s_.2) ∧ (s_.2 ≠ gb170) ∧ (gb175 ≠ s_.2) ∧ (s_.2 ≠ gb175) ∧ (Below w.heap.size w w')) ?_ ?_
                                    rotate_left
                                    · intro hJ5_12
                                      refine join_ (σ := Value × Nat) 9 #[true, true, true, true, true, true, true, false, false, false, false, false, false, true, false, false, false] (fun s_ => [(40, s_.1), (12, .pointer (some ⟨s_.2, 0, none⟩))]) (fun s_ w' => (w'.cell? ⟨gb175, 0, none⟩ = some (.string ((rd_T38 t171 (ji6)).f0)) ∧ w'.cell? ⟨gb175, 1, none⟩ = some (.int .i64 ((rd_T38 t171 (ji6)).f1)) ∧ w'.cell? ⟨gb175, 2, none⟩ = some (.int .i64 ((rd_T38 t171 (ji6)).f2)) ∧ w'.cell? ⟨gb170, 0, none⟩ = some (.int .i64 a2_0) ∧ w'.cell? ⟨gb170, 1, none⟩ = some (.int .i64 a2_1)) ∧ (Kd.R k38 38 w' w.heap.size (fun k_ => k_ ≠ gb175) (.slice (some ad174) t171.length co23) t171) ∧ (MR 5 w' w.heap.size (fun _ => True) s_.1 y176) ∧ (w'.heap[gb170]? = some (.cells #[.int .i64 a2_0, .int .i64 a2_1] 27 (0, 0))) ∧ (w'.heap[gb175]? = some (.cells #[.string ((rd_T38 t171 (ji6)).f0), .int .i64 ((rd_T38 t171 (ji6)).f1), .int .i64 ((rd_T38 t171 (ji6)).f2)] 38 (0, 0))) ∧ (w'.heap[s_.2]? = some (.cells #[.int .i64 0, .int .i64 0] 30 (0, 0))) ∧ (w.heap.size ≤ s_.2) ∧ (w.heap.size ≤ s_.2) ∧ (gb170 ≠ s_.2) ∧ (s_.2 ≠ gb170) ∧ (gb175 ≠ s_.2) ∧ (s_.2 ≠ gb175) ∧ (Below w.heap.size w w')) ?_ ?_
                                      rotate_left
                                      · intro hJ5_13
                                        refine join_ (σ := Nat × Nat) 9 #[true, true, true, true, true, false, true, false, false, false, false, false, true, true, false, false, false] (fun s_ => [(10, .pointer (some ⟨s_.1, 0, none⟩)), (12, .pointer (some ⟨s_.2, 0, none⟩))]) (fun s_ w' => (w'.cell? ⟨gb175, 0, none⟩ = some (.string ((rd_T38 t171 (ji6)).f0)) ∧ w'.cell? ⟨gb175, 1, none⟩ = some (.int .i64 ((rd_T38 t171 (ji6)).f1)) ∧ w'.cell? ⟨gb175, 2, none⟩ = some (.int .i64 ((rd_T38 t171 (ji6)).f2)) ∧ w'.cell? ⟨gb170, 0, none⟩ = some (.int .i64 a2_0) ∧ w'.cell? ⟨gb170, 1, none⟩ = some (.int .i64 a2_1)) ∧ (Kd.R k38 38 w' w.heap.size (fun k_ => k_ ≠ gb175) (.slice (some ad174) t171.length co23) t171) ∧ (w'.heap[gb170]? = some (.cells #[.int .i64 a2_0, .int .i64 a2_1] 27 (0, 0))) ∧ (w'.heap[gb175]? = some (.cells #[.string ((rd_T38 t171 (ji6)).f0), .int .i64 ((rd_T38 t171 (ji6)).f1), .int .i64 ((rd_T38 t171 (ji6)).f2)] 38 (0, 0))) ∧ (w'.heap[s_.1]? = some (.cells #[.int .i64 0, .int .i64 0] 27 (0, 0))) ∧ (w'.heap[s_.2]? = some (.cells #[.int .i64 0, .int .i64 0] 30 (0, 0))) ∧ (w.heap.size ≤ s_.1) ∧ (w.heap.size ≤ s_.1) ∧ (gb170 ≠ s_.1) ∧ (s_.1 ≠ gb170) ∧ (gb175 ≠ s_.1) ∧ (s_.1 ≠ gb175) ∧ (s_.2 ≠ s_.1) ∧ (s_.1 ≠ s_.2) ∧ (w.heap.size ≤ s_.2) ∧ (w.heap.size ≤ s_.2) ∧ (gb170 ≠ s_.2) ∧ (s_.2 ≠ gb170) ∧ (gb175 ≠ s_.2) ∧ (s_.2 ≠ gb175) ∧ (Below w.heap.size w w')) ?_ ?_
                                        rotate_left
                                        · intro hJ12_13
                                          refine join_ (σ := Value) 10 #[true, true, true, true, true, true, true, false, false, false, false, false, false, false, false, false, false] (fun s_ => [(40, s_)]) (fun s_ w' => (w'.cell? ⟨gb175, 0, none⟩ = some (.string ((rd_T38 t171 (ji6)).f0)) ∧ w'.cell? ⟨gb175, 1, none⟩ = some (.int .i64 ((rd_T38 t171 (ji6)).f1)) ∧ w'.cell? ⟨gb175, 2, none⟩ = some (.int .i64 ((rd_T38 t171 (ji6)).f2)) ∧ w'.cell? ⟨gb170, 0, none⟩ = some (.int .i64 a2_0) ∧ w'.cell? ⟨gb170, 1, none⟩ = some (.int .i64 a2_1)) ∧ (Kd.R k38 38 w' w.heap.size (fun k_ => k_ ≠ gb175) (.slice (some ad174) t171.length co23) t171) ∧ (MR 5 w' w.heap.size (fun _ => True) s_ y176) ∧ (w'.heap[gb170]? = some (.cells #[.int .i64 a2_0, .int .i64 a2_1] 27 (0, 0))) ∧ (w'.heap[gb175]? = some (.cells #[.string ((rd_T38 t171 (ji6)).f0), .int .i64 ((rd_T38 t171 (ji6)).f1), .int .i64 ((rd_T38 t171 (ji6)).f2)] 38 (0, 0))) ∧ (Below w.heap.size w w')) ?_ ?_
                                          rotate_left
                                          · intro hJ5
                                            refine join_ (σ := Nat) 10 #[true, true, true, true, true, false, true, false, false, false, false, false, true, false, false, false, false] (fun s_ => [(10, .pointer (some ⟨s_, 0, none⟩))]) (fun s_ w' => (w'.cell? ⟨gb175, 0, none⟩ = some (.string ((rd_T38 t171 (ji6)).f0)) ∧ w'.cell? ⟨gb175, 1, none⟩ = some (.int .i64 ((rd_T38 t171 (ji6)).f1)) ∧ w'.cell? ⟨gb175, 2, none⟩ = some (.int .i64 ((rd_T38 t171 (ji6)).f2)) ∧ w'.cell? ⟨gb170, 0, none⟩ = some (.int .i64 a2_0) ∧ w'.cell? ⟨gb170, 1, none⟩ = some (.int .i64 a2_1)) ∧ (Kd.R k38 38 w' w.heap.size (fun k_ => k_ ≠ gb175) (.slice (some ad174) t171.length co23) t171) ∧ (w'.heap[gb170]? = some (.cells #[.int .i64 a2_0, .int .i64 a2_1] 27 (0, 0))) ∧ (w'.heap[gb175]? = some (.cells #[.string ((rd_T38 t171 (ji6)).f0), .int .i64 ((rd_T38 t171 (ji6)).f1), .int .i64 ((rd_T38 t171 (ji6)).f2)] 38 (0, 0))) ∧ (w'.heap[s_]? = some (.cells #[.int .i64 0, .int .i64 0] 27 (0, 0))) ∧ (w.heap.size ≤ s_) ∧ (w.heap.size ≤ s_) ∧ (gb170 ≠ s_) ∧ (s_ ≠ gb170) ∧ (gb175 ≠ s_) ∧ (s_ ≠ gb175) ∧ (Below w.heap.size w w')) ?_ ?_
                                            rotate_left
                                            · intro hJ12
                                              refine join_ (σ := Nat) 10 #[true, true, true, true, true, false, true, false, false, false, false, false, false, true, false, false, false] (fun s_ => [(12, .pointer (some ⟨s_, 0, none⟩))]) (fun s_ w' => (w'.cell? ⟨gb175, 0, none⟩ = some (.string ((rd_T38 t171 (ji6)).f0)) ∧ w'.cell? ⟨gb175, 1, none⟩ = some (.int .i64 ((rd_T38 t171 (ji6)).f1)) ∧ w'.cell? ⟨gb175, 2, none⟩ = some (.int .i64 ((rd_T38 t171 (ji6)).f2)) ∧ w'.cell? ⟨gb170, 0, none⟩ = some (.int .i64 a2_0) ∧ w'.cell? ⟨gb170, 1, none⟩ = some (.int .i64 a2_1)) ∧ (Kd.R k38 38 w' w.heap.size (fun k_ => k_ ≠ gb175) (.slice (some ad174) t171.length co23) t171) ∧ (w'.heap[gb170]? = some (.cells #[.int .i64 a2_0, .int .i64 a2_1] 27 (0, 0))) ∧ (w'.heap[gb175]? = some (.cells #[.string ((rd_T38 t171 (ji6)).f0), .int .i64 ((rd_T38 t171 (ji6)).f1), .int .i64 ((rd_T38 t171 (ji6)).f2)] 38 (0, 0))) ∧ (w'.heap[s_]? = some (.cells #[.int .i64 0, .int .i64 0] 30 (0, 0))) ∧ (w.heap.size ≤ s_) ∧ (w.heap.size ≤ s_) ∧ (gb170 ≠ s_) ∧ (s_ ≠ gb170) ∧ (gb175 ≠ s_) ∧ (s_ ≠ gb175) ∧ (Below w.heap.size w w')) ?_ ?_
                                              rotate_left
                                              · intro hJ13
                                                refine three_ (i := 5) (j := 12) (k := 13) (Ni := some 40) (Nj := some 10) (Nk := some 12) #[true, true, true, true, true, true, true, false, false, false, false, false, false, false, false, false, false] #[true, true, true, true, true, false, true, false, false, false, false, false, true, false, false, false, false] #[true, true, true, true, true, false, true, false, false, false, false, false, false, true, false, false, false] rfl rfl rfl rfl rfl rfl (three_of HT_.out (by kernel_rfl)) (by decide) (by decide) (by decide) (fun K hK => ?_) (fun K hK => ?_) (fun K hK => ?_)
                                                · skip
                                                  refine MR.lit_step (ok := fun _ => True) ((⟨#[97]⟩ : ByteArray) ++ ((rd_T38 t171 (ji6)).f0).extract 0 1) y176 Ny176.out SBy176 5 ?hg (N := 40) ?hd ?hr trivial ?_; (case hd => rfl); (case hg => rfl); (case hr => first | (go_simp; done) | (go_simp; rfl))
                                                  intro v177 w29 ho30 hb hg_ hnew_
                                                  clear hg_ hnew_
                                                  skip
                                                  have n0_ := Aside0.mk (Kd.R_below (by (with_reducible repeat (first | apply Kd.R_alloc | apply Kd.R_drewN | apply Kd.R_drew)); exact HO173.out) hb)
                                                  have n1_ := Aside0.mk (MR.R_lower ho30 (below_size (by repeat (first | (with_reducible first | exact HB.out | apply below_alloc | apply pw_below_drewN | apply below_drew1 | refine below_set ?_ GE170.out | refine below_set ?_ GE175.out) | exact HB.out))))
                                                  have n2_ := Aside0.mk (blk_below (g := gb170) (o := .cells #[.int .i64 a2_0, .int .i64 a2_1] 27 (0, 0)) (by (with_reducible repeat (first | refine blk_drewN ?_ _ | refine blk_drew ?_ | refine blk_alloc ?_ _)); exact BK170.out) hb)
                                                  have n3_ := Aside0.mk (blk_below (g := gb175) (o := .cells #[.string ((rd_T38 t171 (ji6)).f0), .int .i64 ((rd_T38 t171 (ji6)).f1), .int .i64 ((rd_T38 t171 (ji6)).f2)] 38 (0, 0)) (by (with_reducible repeat (first | refine blk_drewN ?_ _ | refine blk_drew ?_ | refine blk_alloc ?_ _)); exact BK175.out) hb)
                                                  have n4_ := Aside0.mk (below_step (by repeat (first | (with_reducible first | exact HB.out | apply below_alloc | apply pw_below_drewN | apply below_drew1 | refine below_set ?_ GE170.out | refine below_set ?_ GE175.out) | exact HB.out)) hb)
                                                  clear HO173
                                                  clear BK170
                                                  clear BK175
                                                  clear HB
                                                  have HO173 := n0_
                                                  have HO178 := n1_
                                                  have BK170 := n2_
                                                  have BK175 := n3_
                                                  have HB := n4_
                                                  clear n0_ n1_ n2_ n3_ n4_
                                                  clear hb ho30
                                                  refine hK.out _ _ ⟨(blk_cell BK175.out 0).trans rfl, (blk_cell BK175.out 1).trans rfl, (blk_cell BK175.out 2).trans rfl, (blk_cell BK170.out 0).trans rfl, (blk_cell BK170.out 1).trans rfl⟩ (fun hHeld => ?_)
                                                  clear hK K
                                                  refine norm_ (a' := ?_) ?_ ?_
                                                  rotate_left
                                                  · show Act.put _ (some 40) _ = _
                                                    simp only [Act.put, List.setIfInBounds_toArray, List.set_cons_zero, List.set_cons_succ, i64_w, i32_w]
                                                    rfl
                                                  exact norm_ (by first | (simp only [putAll, Act.put, List.setIfInBounds_toArray, List.set_cons_zero, List.set_cons_succ]; done) | (simp only [putAll, Act.put, List.setIfInBounds_toArray, List.set_cons_zero, List.set_cons_succ]; rfl)) (hJ5 (v177) _ ⟨hHeld, (by (with_reducible repeat (first | apply Kd.R_alloc | apply Kd.R_drewN | apply Kd.R_drew)); exact HO173.out), (by (with_reducible repeat (first | apply MR.R_alloc | apply MR.R_drewN | apply MR.R_drew)); exact HO178.out), (by (with_reducible repeat (first | refine blk_drewN ?_ _ | refine blk_drew ?_ | refine blk_alloc ?_ _)); exact BK170.out), (by (with_reducible repeat (first | refine blk_drewN ?_ _ | refine blk_drew ?_ | refine blk_alloc ?_ _)); exact BK175.out), (by repeat (first | (with_reducible first | exact HB.out | apply below_alloc | apply pw_below_drewN | apply below_drew1 | refine below_set ?_ GE170.out | refine below_set ?_ GE175.out) | exact HB.out))⟩)
                                                · skip
                                                  refine box_step ?hg (N := 10) ?hd (cs := #[.int .i64 0, .int .i64 0]) (t := 27) ?hr ?_; (case hd => rfl); (case hg => rfl); (case hr => first | (go_simp; done) | (go_simp; rfl))
                                                  intro gb184 hg w29 hbox hb
                                                  have n0_ := Aside0.mk (Kd.R_below (by (with_reducible repeat (first | apply Kd.R_alloc | apply Kd.R_drewN | apply Kd.R_drew)); exact HO173.out) hb)
                                                  have n1_ := Aside0.mk (blk_below (g := gb170) (o := .cells #[.int .i64 a2_0, .int .i64 a2_1] 27 (0, 0)) (by (with_reducible repeat (first | refine blk_drewN ?_ _ | refine blk_drew ?_ | refine blk_alloc ?_ _)); exact BK170.out) hb)
                                                  have n2_ := Aside0.mk (blk_below (g := gb175) (o := .cells #[.string ((rd_T38 t171 (ji6)).f0), .int .i64 ((rd_T38 t171 (ji6)).f1), .int .i64 ((rd_T38 t171 (ji6)).f2)] 38 (0, 0)) (by (with_reducible repeat (first | refine blk_drewN ?_ _ | refine blk_drew ?_ | refine blk_alloc ?_ _)); exact BK175.out) hb)
                                                  have n3_ := Aside0.mk (below_step (by repeat (first | (with_reducible first | exact HB.out | apply below_alloc | apply pw_below_drewN | apply below_drew1 | refine below_set ?_ GE170.out | refine below_set ?_ GE175.out) | exact HB.out)) hb)
                                                  have n4_ := Aside0.mk (hbox)
                                                  have n5_ := Aside0.mk ((by rw [hg]; exact (below_size (by repeat (first | (with_reducible first | exact HB.out | apply below_alloc | apply pw_below_drewN | apply below_drew1 | refine below_set ?_ GE170.out | refine below_set ?_ GE175.out) | exact HB.out))) : w.heap.size ≤ gb184))
                                                  have n6_ := Aside0.mk ((by rw [hg]; exact (below_size (by repeat (first | (with_reducible first | exact HB.out | apply below_alloc | apply pw_below_drewN | apply below_drew1 | refine below_set ?_ GE170.out | refine below_set ?_ GE175.out) | exact HB.out))) : w.heap.size ≤ gb184))
                                                  have n7_ := Aside0.mk ((by rw [hg]; exact Nat.ne_of_lt (blk_lt (g := gb170) (o := .cells #[.int .i64 a2_0, .int .i64 a2_1] 27 (0, 0)) (by (with_reducible repeat (first | refine blk_drewN ?_ _ | refine blk_drew ?_ | refine blk_alloc ?_ _)); exact BK170.out)) : gb170 ≠ gb184))
                                                  have n8_ := Aside0.mk ((by rw [hg]; exact Nat.ne_of_gt (blk_lt (g := gb170) (o := .cells #[.int .i64 a2_0, .int .i64 a2_1] 27 (0, 0)) (by (with_reducible repeat (first | refine blk_drewN ?_ _ | refine blk_drew ?_ | refine blk_alloc ?_ _)); exact BK170.out)) : gb184 ≠ gb170))
                                                  have n9_ := Aside0.mk ((by rw [hg]; exact Nat.ne_of_lt (blk_lt (g := gb175) (o := .cells #[.string ((rd_T38 t171 (ji6)).f0), .int .i64 ((rd_T38 t171 (ji6)).f1), .int .i64 ((rd_T38 t171 (ji6)).f2)] 38 (0, 0)) (by (with_reducible repeat (first | refine blk_drewN ?_ _ | refine blk_drew ?_ | refine blk_alloc ?_ _)); exact BK175.out)) : gb175 ≠ gb184))
                                                  have n10_ := Aside0.mk ((by rw [hg]; exact Nat.ne_of_gt (blk_lt (g := gb175) (o := .cells #[.string ((rd_T38 t171 (ji6)).f0), .int .i64 ((rd_T38 t171 (ji6)).f1), .int .i64 ((rd_T38 t171 (ji6)).f2)] 38 (0, 0)) (by (with_reducible repeat (first | refine blk_drewN ?_ _ | refine blk_drew ?_ | refine blk_alloc ?_ _)); exact BK175.out)) : gb184 ≠ gb175))
                                                  clear HO173
                                                  clear BK170
                                                  clear BK175
                                                  clear HB
                                                  have HO173 := n0_
                                                  have BK170 := n1_
                                                  have BK175 := n2_
                                                  have HB := n3_
                                                  have BK184 := n4_
                                                  have GW184 := n5_
                                                  have GE184 := n6_
                                                  have NB170_184 := n7_
                                                  have NB184_170 := n8_
                                                  have NB175_184 := n9_
                                                  have NB184_175 := n10_
                                                  clear n0_ n1_ n2_ n3_ n4_ n5_ n6_ n7_ n8_ n9_ n10_
                                                  clear hb hbox hg
                                                  refine hK.out _ _ ⟨(blk_cell BK175.out 0).trans rfl, (blk_cell BK175.out 1).trans rfl, (blk_cell BK175.out 2).trans rfl, (blk_cell BK170.out 0).trans rfl, (blk_cell BK170.out 1).trans rfl⟩ (fun hHeld => ?_)
                                                  clear hK K
                                                  refine norm_ (a' := ?_) ?_ ?_
                                                  rotate_left
                                                  · show Act.put _ (some 10) _ = _
                                                    simp only [Act.put, List.setIfInBounds_toArray, List.set_cons_zero, List.set_cons_succ, i64_w, i32_w]
                                                    rfl
                                                  exact norm_ (by first | (simp only [putAll, Act.put, List.setIfInBounds_toArray, List.set_cons_zero, List.set_cons_succ]; done) | (simp only [putAll, Act.put, List.setIfInBounds_toArray, List.set_cons_zero, List.set_cons_succ]; rfl)) (hJ12 (gb184) _ ⟨hHeld, (by (with_reducible repeat (first | apply Kd.R_alloc | apply Kd.R_drewN | apply Kd.R_drew)); exact HO173.out), (by (with_reducible repeat (first | refine blk_drewN ?_ _ | refine blk_drew ?_ | refine blk_alloc ?_ _)); exact BK170.out), (by (with_reducible repeat (first | refine blk_drewN ?_ _ | refine blk_drew ?_ | refine blk_alloc ?_ _)); exact BK175.out), (by (with_reducible repeat (first | refine blk_drewN ?_ _ | refine blk_drew ?_ | refine blk_alloc ?_ _)); exact BK184.out), GW184.out, GE184.out, NB170_184.out, NB184_170.out, NB175_184.out, NB184_175.out, (by repeat (first | (with_reducible first | exact HB.out | apply below_alloc | apply pw_below_drewN | apply below_drew1 | refine below_set ?_ GE170.out | refine below_set ?_ GE175.out | refine below_set ?_ GE184.out) | exact HB.out))⟩)
                                                · skip
                                                  refine box_step ?hg (N := 12) ?hd (cs := #[.int .i64 0, .int .i64 0]) (t := 30) ?hr ?_; (case hd => rfl); (case hg => rfl); (case hr => first | (go_simp; done) | (go_simp; rfl))
                                                  intro gb185 hg w29 hbox hb
                                                  have n0_ := Aside0.mk (Kd.R_below (by (with_reducible repeat (first | apply Kd.R_alloc | apply Kd.R_drewN | apply Kd.R_drew)); exact HO173.out) hb)
                                                  have n1_ := Aside0.mk (blk_below (g := gb170) (o := .cells #[.int .i64 a2_0, .int .i64 a2_1] 27 (0, 0)) (by (with_reducible repeat (first | refine blk_drewN ?_ _ | refine blk_drew ?_ | refine blk_alloc ?_ _)); exact BK170.out) hb)
                                                  have n2_ := Aside0.mk (blk_below (g := gb175) (o := .cells #[.string ((rd_T38 t171 (ji6)).f0), .int .i64 ((rd_T38 t171 (ji6)).f1), .int .i64 ((rd_T38 t171 (ji6)).f2)] 38 (0, 0)) (by (with_reducible repeat (first | refine blk_drewN ?_ _ | refine blk_drew ?_ | refine blk_alloc ?_ _)); exact BK175.out) hb)
                                                  have n3_ := Aside0.mk (below_step (by repeat (first | (with_reducible first | exact HB.out | apply below_alloc | apply pw_below_drewN | apply below_drew1 | refine below_set ?_ GE170.out | refine below_set ?_ GE175.out) | exact HB.out)) hb)
                                                  have n4_ := Aside0.mk (hbox)
                                                  have n5_ := Aside0.mk ((by rw [hg]; exact (below_size (by repeat (first | (with_reducible first | exact HB.out | apply below_alloc | apply pw_below_drewN | apply below_drew1 | refine below_set ?_ GE170.out | refine below_set ?_ GE175.out) | exact HB.out))) : w.heap.size ≤ gb185))
                                                  have n6_ := Aside0.mk ((by rw [hg]; exact (below_size (by repeat (first | (with_reducible first | exact HB.out | apply below_alloc | apply pw_below_drewN | apply below_drew1 | refine below_set ?_ GE170.out | refine below_set ?_ GE175.out) | exact HB.out))) : w.heap.size ≤ gb185))
                                                  have n7_ := Aside0.mk ((by rw [hg]; exact Nat.ne_of_lt (blk_lt (g := gb170) (o := .cells #[.int .i64 a2_0, .int .i64 a2_1] 27 (0, 0)) (by (with_reducible repeat (first | refine blk_drewN ?_ _ | refine blk_drew ?_ | refine blk_alloc ?_ _)); exact BK170.out)) : gb170 ≠ gb185))
                                                  have n8_ := Aside0.mk ((by rw [hg]; exact Nat.ne_of_gt (blk_lt (g := gb170) (o := .cells #[.int .i64 a2_0, .int .i64 a2_1] 27 (0, 0)) (by (with_reducible repeat (first | refine blk_drewN ?_ _ | refine blk_drew ?_ | refine blk_alloc ?_ _)); exact BK170.out)) : gb185 ≠ gb170))
                                                  have n9_ := Aside0.mk ((by rw [hg]; exact Nat.ne_of_lt (blk_lt (g := gb175) (o := .cells #[.string ((rd_T38 t171 (ji6)).f0), .int .i64 ((rd_T38 t171 (ji6)).f1), .int .i64 ((rd_T38 t171 (ji6)).f2)] 38 (0, 0)) (by (with_reducible repeat (first | refine blk_drewN ?_ _ | refine blk_drew ?_ | refine blk_alloc ?_ _)); exact BK175.out)) : gb175 ≠ gb185))
                                                  have n10_ := Aside0.mk ((by rw [hg]; exact Nat.ne_of_gt (blk_lt (g := gb175) (o := .cells #[.string ((rd_T38 t171 (ji6)).f0), .int .i64 ((rd_T38 t171 (ji6)).f1), .int .i64 ((rd_T38 t171 (ji6)).f2)] 38 (0, 0)) (by (with_reducible repeat (first | refine blk_drewN ?_ _ | refine blk_drew ?_ | refine blk_alloc ?_ _)); exact BK175.out)) : gb185 ≠ gb175))
                                                  clear HO173
                                                  clear BK170
                                                  clear BK175
                                                  clear HB
                                                  have HO173 := n0_
                                                  have BK170 := n1_
                                                  have BK175 := n2_
                                                  have HB := n3_
                                                  have BK185 := n4_
                                                  have GW185 := n5_
                                                  have GE185 := n6_
                                                  have NB170_185 := n7_
                                                  have NB185_170 := n8_
                                                  have NB175_185 := n9_
                                                  have NB185_175 := n10_
                                                  clear n0_ n1_ n2_ n3_ n4_ n5_ n6_ n7_ n8_ n9_ n10_
                                                  clear hb hbox hg
                                                  refine hK.out _ _ ⟨(blk_cell BK175.out 0).trans rfl, (blk_cell BK175.out 1).trans rfl, (blk_cell BK175.out 2).trans rfl, (blk_cell BK170.out 0).trans rfl, (blk_cell BK170.out 1).trans rfl⟩ (fun hHeld => ?_)
                                                  clear hK K
                                                  refine norm_ (a' := ?_) ?_ ?_
                                                  rotate_left
                                                  · show Act.put _ (some 12) _ = _
                                                    simp only [Act.put, List.setIfInBounds_toArray, List.set_cons_zero, List.set_cons_succ, i64_w, i32_w]
                                                    rfl
                                                  exact norm_ (by first | (simp only [putAll, Act.put, List.setIfInBounds_toArray, List.set_cons_zero, List.set_cons_succ]; done) | (simp only [putAll, Act.put, List.setIfInBounds_toArray, List.set_cons_zero, List.set_cons_succ]; rfl)) (hJ13 (gb185) _ ⟨hHeld, (by (with_reducible repeat (first | apply Kd.R_alloc | apply Kd.R_drewN | apply Kd.R_drew)); exact HO173.out), (by (with_reducible repeat (first | refine blk_drewN ?_ _ | refine blk_drew ?_ | refine blk_alloc ?_ _)); exact BK170.out), (by (with_reducible repeat (first | refine blk_drewN ?_ _ | refine blk_drew ?_ | refine blk_alloc ?_ _)); exact BK175.out), (by (with_reducible repeat (first | refine blk_drewN ?_ _ | refine blk_drew ?_ | refine blk_alloc ?_ _)); exact BK185.out), GW185.out, GE185.out, NB170_185.out, NB185_170.out, NB175_185.out, NB185_175.out, (by repeat (first | (with_reducible first | exact HB.out | apply below_alloc | apply pw_below_drewN | apply below_drew1 | refine below_set ?_ GE170.out | refine below_set ?_ GE175.out | refine below_set ?_ GE185.out) | exact HB.out))⟩)
                                              · skip
                                                rintro gb185 w30 ⟨hS_, h0_, h1_, h2_, h3_, h4_, h5_, h6_, h7_, h8_, h9_, h10_⟩
                                                have n0_ : Aside0 (Kd.R k38 38 w30 w.heap.size (fun k_ => k_ ≠ gb175) (.slice (some ad174) t171.length co23) t171) := ⟨h0_⟩
                                                have n1_ : Aside0 (w30.heap[gb170]? = some (.cells #[.int .i64 a2_0, .int .i64 a2_1] 27 (0, 0))) := ⟨h1_⟩
                                                have n2_ : Aside0 (w30.heap[gb175]? = some (.cells #[.string ((rd_T38 t171 (ji6)).f0), .int .i64 ((rd_T38 t171 (ji6)).f1), .int .i64 ((rd_T38 t171 (ji6)).f2)] 38 (0, 0))) := ⟨h2_⟩
                                                have n3_ : Aside0 (w30.heap[gb185]? = some (.cells #[.int .i64 0, .int .i64 0] 30 (0, 0))) := ⟨h3_⟩
                                                have n4_ : Aside0 (w.heap.size ≤ gb185) := ⟨h4_⟩
                                                have n5_ : Aside0 (w.heap.size ≤ gb185) := ⟨h5_⟩
                                                have n6_ : Aside0 (gb170 ≠ gb185) := ⟨h6_⟩
                                                have n7_ : Aside0 (gb185 ≠ gb170) := ⟨h7_⟩
                                                have n8_ : Aside0 (gb175 ≠ gb185) := ⟨h8_⟩
                                                have n9_ : Aside0 (gb185 ≠ gb175) := ⟨h9_⟩
                                                have n10_ : Aside0 (Below w.heap.size w w30) := ⟨h10_⟩
                                                clear HO173
                                                clear BK170
                                                clear BK175
                                                clear HB
                                                clear h0_ h1_ h2_ h3_ h4_ h5_ h6_ h7_ h8_ h9_ h10_
                                                have HO173 := n0_
                                                have BK170 := n1_
                                                have BK175 := n2_
                                                have BK185 := n3_
                                                have GW185 := n4_
                                                have GE185 := n5_
                                                have NB170_185 := n6_
                                                have NB185_170 := n7_
                                                have NB175_185 := n8_
                                                have NB185_175 := n9_
                                                have HB := n10_
                                                clear n0_ n1_ n2_ n3_ n4_ n5_ n6_ n7_ n8_ n9_ n10_
                                                have hHeld : w30.cell? ⟨gb175, 0, none⟩ = some (.string ((rd_T38 t171 (ji6)).f0)) ∧ w30.cell? ⟨gb175, 1, none⟩ = some (.int .i64 ((rd_T38 t171 (ji6)).f1)) ∧ w30.cell? ⟨gb175, 2, none⟩ = some (.int .i64 ((rd_T38 t171 (ji6)).f2)) ∧ w30.cell? ⟨gb170, 0, none⟩ = some (.int .i64 a2_0) ∧ w30.cell? ⟨gb170, 1, none⟩ = some (.int .i64 a2_1) := hS_
                                                refine norm_ (a' := ?_) ?_ ?_
                                                rotate_left
                                                · simp only [putAll, Act.put, List.setIfInBounds_toArray, List.set_cons_zero, List.set_cons_succ]
                                                  rfl
                                                refine two_ (i := 5) (j := 12) (Ni := some 40) (Nj := some 10) #[true, true, true, true, true, true, true, false, false, false, false, false, false, true, false, false, false] #[true, true, true, true, true, false, true, false, false, false, false, false, true, true, false, false, false] rfl rfl rfl rfl (two_of HT_.out (by kernel_rfl)) (by decide) (by decide) (fun K hK => ?_) (fun K hK => ?_)
                                                · skip
                                                  refine MR.lit_step (ok := fun _ => True) ((⟨#[97]⟩ : ByteArray) ++ ((rd_T38 t171 (ji6)).f0).extract 0 1) y176 Ny176.out SBy176 5 ?hg (N := 40) ?hd ?hr trivial ?_; (case hd => rfl); (case hg => rfl); (case hr => first | (go_simp; done) | (go_simp; rfl))
                                                  intro v177 w31 ho32 hb hg_ hnew_
                                                  clear hg_ hnew_
                                                  skip
                                                  have n0_ := Aside0.mk (Kd.R_below (by (with_reducible repeat (first | apply Kd.R_alloc | apply Kd.R_drewN | apply Kd.R_drew)); exact HO173.out) hb)
                                                  have n1_ := Aside0.mk (MR.R_lower ho32 (below_size (by repeat (first | (with_reducible first | exact HB.out | apply below_alloc | apply pw_below_drewN | apply below_drew1 | refine below_set ?_ GE170.out | refine below_set ?_ GE175.out | refine below_set ?_ GE185.out) | exact HB.out))))
                                                  have n2_ := Aside0.mk (blk_below (g := gb170) (o := .cells #[.int .i64 a2_0, .int .i64 a2_1] 27 (0, 0)) (by (with_reducible repeat (first | refine blk_drewN ?_ _ | refine blk_drew ?_ | refine blk_alloc ?_ _)); exact BK170.out) hb)
                                                  have n3_ := Aside0.mk (blk_below (g := gb175) (o := .cells #[.string ((rd_T38 t171 (ji6)).f0), .int .i64 ((rd_T38 t171 (ji6)).f1), .int .i64 ((rd_T38 t171 (ji6)).f2)] 38 (0, 0)) (by (with_reducible repeat (first | refine blk_drewN ?_ _ | refine blk_drew ?_ | refine blk_alloc ?_ _)); exact BK175.out) hb)
                                                  have n4_ := Aside0.mk (blk_below (g := gb185) (o := .cells #[.int .i64 0, .int .i64 0] 30 (0, 0)) (by (with_reducible repeat (first | refine blk_drewN ?_ _ | refine blk_drew ?_ | refine blk_alloc ?_ _)); exact BK185.out) hb)
                                                  have n5_ := Aside0.mk (below_step (by repeat (first | (with_reducible first | exact HB.out | apply below_alloc | apply pw_below_drewN | apply below_drew1 | refine below_set ?_ GE170.out | refine below_set ?_ GE175.out | refine below_set ?_ GE185.out) | exact HB.out)) hb)
                                                  clear HO173
                                                  clear BK170
                                                  clear BK175
                                                  clear BK185
                                                  clear HB
                                                  have HO173 := n0_
                                                  have HO178 := n1_
                                                  have BK170 := n2_
                                                  have BK175 := n3_
                                                  have BK185 := n4_
                                                  have HB := n5_
                                                  clear n0_ n1_ n2_ n3_ n4_ n5_
                                                  clear hb ho32
                                                  refine hK.out _ _ ⟨(blk_cell BK175.out 0).trans rfl, (blk_cell BK175.out 1).trans rfl, (blk_cell BK175.out 2).trans rfl, (blk_cell BK170.out 0).trans rfl, (blk_cell BK170.out 1).trans rfl⟩ (fun hHeld => ?_)
                                                  clear hK K
                                                  refine norm_ (a' := ?_) ?_ ?_
                                                  rotate_left
                                                  · show Act.put _ (some 40) _ = _
                                                    simp only [Act.put, List.setIfInBounds_toArray, List.set_cons_zero, List.set_cons_succ, i64_w, i32_w]
                                                    rfl
                                                  exact norm_ (by first | (simp only [putAll, Act.put, List.setIfInBounds_toArray, List.set_cons_zero, List.set_cons_succ]; done) | (simp only [putAll, Act.put, List.setIfInBounds_toArray, List.set_cons_zero, List.set_cons_succ]; rfl)) (hJ5_13 (v177, gb185) _ ⟨hHeld, (by (with_reducible repeat (first | apply Kd.R_alloc | apply Kd.R_drewN | apply Kd.R_drew)); exact HO173.out), (by (with_reducible repeat (first | apply MR.R_alloc | apply MR.R_drewN | apply MR.R_drew)); exact HO178.out), (by (with_reducible repeat (first | refine blk_drewN ?_ _ | refine blk_drew ?_ | refine blk_alloc ?_ _)); exact BK170.out), (by (with_reducible repeat (first | refine blk_drewN ?_ _ | refine blk_drew ?_ | refine blk_alloc ?_ _)); exact BK175.out), (by (with_reducible repeat (first | refine blk_drewN ?_ _ | refine blk_drew ?_ | refine blk_alloc ?_ _)); exact BK185.out), GW185.out, GE185.out, NB170_185.out, NB185_170.out, NB175_185.out, NB185_175.out, (by repeat (first | (with_reducible first | exact HB.out | apply below_alloc | apply pw_below_drewN | apply below_drew1 | refine below_set ?_ GE170.out | refine below_set ?_ GE175.out | refine below_set ?_ GE185.out) | exact HB.out))⟩)
                                                · skip
                                                  refine box_step ?hg (N := 10) ?hd (cs := #[.int .i64 0, .int .i64 0]) (t := 27) ?hr ?_; (case hd => rfl); (case hg => rfl); (case hr => first | (go_simp; done) | (go_simp; rfl))
                                                  intro gb184 hg w31 hbox hb
                                                  have n0_ := Aside0.mk (Kd.R_below (by (with_reducible repeat (first | apply Kd.R_alloc | apply Kd.R_drewN | apply Kd.R_drew)); exact HO173.out) hb)
                                                  have n1_ := Aside0.mk (blk_below (g := gb170) (o := .cells #[.int .i64 a2_0, .int .i64 a2_1] 27 (0, 0)) (by (with_reducible repeat (first | refine blk_drewN ?_ _ | refine blk_drew ?_ | refine blk_alloc ?_ _)); exact BK170.out) hb)
                                                  have n2_ := Aside0.mk (blk_below (g := gb175) (o := .cells #[.string ((rd_T38 t171 (ji6)).f0), .int .i64 ((rd_T38 t171 (ji6)).f1), .int .i64 ((rd_T38 t171 (ji6)).f2)] 38 (0, 0)) (by (with_reducible repeat (first | refine blk_drewN ?_ _ | refine blk_drew ?_ | refine blk_alloc ?_ _)); exact BK175.out) hb)
                                                  have n3_ := Aside0.mk (blk_below (g := gb185) (o := .cells #[.int .i64 0, .int .i64 0] 30 (0, 0)) (by (with_reducible repeat (first | refine blk_drewN ?_ _ | refine blk_drew ?_ | refine blk_alloc ?_ _)); exact BK185.out) hb)
                                                  have n4_ := Aside0.mk (below_step (by repeat (first | (with_reducible first | exact HB.out | apply below_alloc | apply pw_below_drewN | apply below_drew1 | refine below_set ?_ GE170.out | refine below_set ?_ GE175.out | refine below_set ?_ GE185.out) | exact HB.out)) hb)
                                                  have n5_ := Aside0.mk (hbox)
                                                  have n6_ := Aside0.mk ((by rw [hg]; exact (below_size (by repeat (first | (with_reducible first | exact HB.out | apply below_alloc | apply pw_below_drewN | apply below_drew1 | refine below_set ?_ GE170.out | refine below_set ?_ GE175.out | refine below_set ?_ GE185.out) | exact HB.out))) : w.heap.size ≤ gb184))
                                                  have n7_ := Aside0.mk ((by rw [hg]; exact (below_size (by repeat (first | (with_reducible first | exact HB.out | apply below_alloc | apply pw_below_drewN | apply below_drew1 | refine below_set ?_ GE170.out | refine below_set ?_ GE175.out | refine below_set ?_ GE185.out) | exact HB.out))) : w.heap.size ≤ gb184))
                                                  have n8_ := Aside0.mk ((by rw [hg]; exact Nat.ne_of_lt (blk_lt (g := gb170) (o := .cells #[.int .i64 a2_0, .int .i64 a2_1] 27 (0, 0)) (by (with_reducible repeat (first | refine blk_drewN ?_ _ | refine blk_drew ?_ | refine blk_alloc ?_ _)); exact BK170.out)) : gb170 ≠ gb184))
                                                  have n9_ := Aside0.mk ((by rw [hg]; exact Nat.ne_of_gt (blk_lt (g := gb170) (o := .cells #[.int .i64 a2_0, .int .i64 a2_1] 27 (0, 0)) (by (with_reducible repeat (first | refine blk_drewN ?_ _ | refine blk_drew ?_ | refine blk_alloc ?_ _)); exact BK170.out)) : gb184 ≠ gb170))
                                                  have n10_ := Aside0.mk ((by rw [hg]; exact Nat.ne_of_lt (blk_lt (g := gb175) (o := .cells #[.string ((rd_T38 t171 (ji6)).f0), .int .i64 ((rd_T38 t171 (ji6)).f1), .int .i64 ((rd_T38 t171 (ji6)).f2)] 38 (0, 0)) (by (with_reducible repeat (first | refine blk_drewN ?_ _ | refine blk_drew ?_ | refine blk_alloc ?_ _)); exact BK175.out)) : gb175 ≠ gb184))
                                                  have n11_ := Aside0.mk ((by rw [hg]; exact Nat.ne_of_gt (blk_lt (g := gb175) (o := .cells #[.string ((rd_T38 t171 (ji6)).f0), .int .i64 ((rd_T38 t171 (ji6)).f1), .int .i64 ((rd_T38 t171 (ji6)).f2)] 38 (0, 0)) (by (with_reducible repeat (first | refine blk_drewN ?_ _ | refine blk_drew ?_ | refine blk_alloc ?_ _)); exact BK175.out)) : gb184 ≠ gb175))
                                                  have n12_ := Aside0.mk ((by rw [hg]; exact Nat.ne_of_lt (blk_lt (g := gb185) (o := .cells #[.int .i64 0, .int .i64 0] 30 (0, 0)) (by (with_reducible repeat (first | refine blk_drewN ?_ _ | refine blk_drew ?_ | refine blk_alloc ?_ _)); exact BK185.out)) : gb185 ≠ gb184))
                                                  have n13_ := Aside0.mk ((by rw [hg]; exact Nat.ne_of_gt (blk_lt (g := gb185) (o := .cells #[.int .i64 0, .int .i64 0] 30 (0, 0)) (by (with_reducible repeat (first | refine blk_drewN ?_ _ | refine blk_drew ?_ | refine blk_alloc ?_ _)); exact BK185.out)) : gb184 ≠ gb185))
                                                  clear HO173
                                                  clear BK170
                                                  clear BK175
                                                  clear BK185
                                                  clear HB
                                                  have HO173 := n0_
                                                  have BK170 := n1_
                                                  have BK175 := n2_
                                                  have BK185 := n3_
                                                  have HB := n4_
                                                  have BK184 := n5_
                                                  have GW184 := n6_
                                                  have GE184 := n7_
                                                  have NB170_184 := n8_
                                                  have NB184_170 := n9_
                                                  have NB175_184 := n10_
                                                  have NB184_175 := n11_
                                                  have NB185_184 := n12_
                                                  have NB184_185 := n13_
                                                  clear n0_ n1_ n2_ n3_ n4_ n5_ n6_ n7_ n8_ n9_ n10_ n11_ n12_ n13_
                                                  clear hb hbox hg
                                                  refine hK.out _ _ ⟨(blk_cell BK175.out 0).trans rfl, (blk_cell BK175.out 1).trans rfl, (blk_cell BK175.out 2).trans rfl, (blk_cell BK170.out 0).trans rfl, (blk_cell BK170.out 1).trans rfl⟩ (fun hHeld => ?_)
                                                  clear hK K
                                                  refine norm_ (a' := ?_) ?_ ?_
                                                  rotate_left
                                                  · show Act.put _ (some 10) _ = _
                                                    simp only [Act.put, List.setIfInBounds_toArray, List.set_cons_zero, List.set_cons_succ, i64_w, i32_w]
                                                    rfl
                                                  exact norm_ (by first | (simp only [putAll, Act.put, List.setIfInBounds_toArray, List.set_cons_zero, List.set_cons_succ]; done) | (simp only [putAll, Act.put, List.setIfInBounds_toArray, List.set_cons_zero, List.set_cons_succ]; rfl)) (hJ12_13 (gb184, gb185) _ ⟨hHeld, (by (with_reducible repeat (first | apply Kd.R_alloc | apply Kd.R_drewN | apply Kd.R_drew)); exact HO173.out), (by (with_reducible repeat (first | refine blk_drewN ?_ _ | refine blk_drew ?_ | refine blk_alloc ?_ _)); exact BK170.out), (by (with_reducible repeat (first | refine blk_drewN ?_ _ | refine blk_drew ?_ | refine blk_alloc ?_ _)); exact BK175.out), (by (with_reducible repeat (first | refine blk_drewN ?_ _ | refine blk_drew ?_ | refine blk_alloc ?_ _)); exact BK184.out), (by (with_reducible repeat (first | refine blk_drewN ?_ _ | refine blk_drew ?_ | refine blk_alloc ?_ _)); exact BK185.out), GW184.out, GE184.out, NB170_184.out, NB184_170.out, NB175_184.out, NB184_175.out, NB185_184.out, NB184_185.out, GW185.out, GE185.out, NB170_185.out, NB185_170.out, NB175_185.out, NB185_175.out, (by repeat (first | (with_reducible first | exact HB.out | apply below_alloc | apply pw_below_drewN | apply below_drew1 | refine below_set ?_ GE170.out | refine below_set ?_ GE175.out | refine below_set ?_ GE185.out | refine below_set ?_ GE184.out) | exact HB.out))⟩)
                                            · skip
                                              rintro gb184 w30 ⟨hS_, h0_, h1_, h2_, h3_, h4_, h5_, h6_, h7_, h8_, h9_, h10_⟩
                                              have n0_ : Aside0 (Kd.R k38 38 w30 w.heap.size (fun k_ => k_ ≠ gb175) (.slice (some ad174) t171.length co23) t171) := ⟨h0_⟩
                                              have n1_ : Aside0 (w30.heap[gb170]? = some (.cells #[.int .i64 a2_0, .int .i64 a2_1] 27 (0, 0))) := ⟨h1_⟩
                                              have n2_ : Aside0 (w30.heap[gb175]? = some (.cells #[.string ((rd_T38 t171 (ji6)).f0), .int .i64 ((rd_T38 t171 (ji6)).f1), .int .i64 ((rd_T38 t171 (ji6)).f2)] 38 (0, 0))) := ⟨h2_⟩
                                              have n3_ : Aside0 (w30.heap[gb184]? = some (.cells #[.int .i64 0, .int .i64 0] 27 (0, 0))) := ⟨h3_⟩
                                              have n4_ : Aside0 (w.heap.size ≤ gb184) := ⟨h4_⟩
                                              have n5_ : Aside0 (w.heap.size ≤ gb184) := ⟨h5_⟩
                                              have n6_ : Aside0 (gb170 ≠ gb184) := ⟨h6_⟩
                                              have n7_ : Aside0 (gb184 ≠ gb170) := ⟨h7_⟩
                                              have n8_ : Aside0 (gb175 ≠ gb184) := ⟨h8_⟩
                                              have n9_ : Aside0 (gb184 ≠ gb175) := ⟨h9_⟩
                                              have n10_ : Aside0 (Below w.heap.size w w30) := ⟨h10_⟩
                                              clear HO173
                                              clear BK170
                                              clear BK175
                                              clear HB
                                              clear h0_ h1_ h2_ h3_ h4_ h5_ h6_ h7_ h8_ h9_ h10_
                                              have HO173 := n0_
                                              have BK170 := n1_
                                              have BK175 := n2_
                                              have BK184 := n3_
                                              have GW184 := n4_
                                              have GE184 := n5_
                                              have NB170_184 := n6_
                                              have NB184_170 := n7_
                                              have NB175_184 := n8_
                                              have NB184_175 := n9_
                                              have HB := n10_
                                              clear n0_ n1_ n2_ n3_ n4_ n5_ n6_ n7_ n8_ n9_ n10_
                                              have hHeld : w30.cell? ⟨gb175, 0, none⟩ = some (.string ((rd_T38 t171 (ji6)).f0)) ∧ w30.cell? ⟨gb175, 1, none⟩ = some (.int .i64 ((rd_T38 t171 (ji6)).f1)) ∧ w30.cell? ⟨gb175, 2, none⟩ = some (.int .i64 ((rd_T38 t171 (ji6)).f2)) ∧ w30.cell? ⟨gb170, 0, none⟩ = some (.int .i64 a2_0) ∧ w30.cell? ⟨gb170, 1, none⟩ = some (.int .i64 a2_1) := hS_
                                              refine norm_ (a' := ?_) ?_ ?_
                                              rotate_left
                                              · simp only [putAll, Act.put, List.setIfInBounds_toArray, List.set_cons_zero, List.set_cons_succ]
                                                rfl
                                              refine two_ (i := 5) (j := 13) (Ni := some 40) (Nj := some 12) #[true, true, true, true, true, true, true, false, false, false, false, false, true, false, false, false, false] #[true, true, true, true, true, false, true, false, false, false, false, false, true, true, false, false, false] rfl rfl rfl rfl (two_of HT_.out (by kernel_rfl)) (by decide) (by decide) (fun K hK => ?_) (fun K hK => ?_)
                                              · skip
                                                refine MR.lit_step (ok := fun _ => True) ((⟨#[97]⟩ : ByteArray) ++ ((rd_T38 t171 (ji6)).f0).extract 0 1) y176 Ny176.out SBy176 5 ?hg (N := 40) ?hd ?hr trivial ?_; (case hd => rfl); (case hg => rfl); (case hr => first | (go_simp; done) | (go_simp; rfl))
                                                intro v177 w31 ho32 hb hg_ hnew_
                                                clear hg_ hnew_
                                                skip
                                                have n0_ := Aside0.mk (Kd.R_below (by (with_reducible repeat (first | apply Kd.R_alloc | apply Kd.R_drewN | apply Kd.R_drew)); exact HO173.out) hb)
                                                have n1_ := Aside0.mk (MR.R_lower ho32 (below_size (by repeat (first | (with_reducible first | exact HB.out | apply below_alloc | apply pw_below_drewN | apply below_drew1 | refine below_set ?_ GE170.out | refine below_set ?_ GE175.out | refine below_set ?_ GE184.out) | exact HB.out))))
                                                have n2_ := Aside0.mk (blk_below (g := gb170) (o := .cells #[.int .i64 a2_0, .int .i64 a2_1] 27 (0, 0)) (by (with_reducible repeat (first | refine blk_drewN ?_ _ | refine blk_drew ?_ | refine blk_alloc ?_ _)); exact BK170.out) hb)
                                                have n3_ := Aside0.mk (blk_below (g := gb175) (o := .cells #[.string ((rd_T38 t171 (ji6)).f0), .int .i64 ((rd_T38 t171 (ji6)).f1), .int .i64 ((rd_T38 t171 (ji6)).f2)] 38 (0, 0)) (by (with_reducible repeat (first | refine blk_drewN ?_ _ | refine blk_drew ?_ | refine blk_alloc ?_ _)); exact BK175.out) hb)
                                                have n4_ := Aside0.mk (blk_below (g := gb184) (o := .cells #[.int .i64 0, .int .i64 0] 27 (0, 0)) (by (with_reducible repeat (first | refine blk_drewN ?_ _ | refine blk_drew ?_ | refine blk_alloc ?_ _)); exact BK184.out) hb)
                                                have n5_ := Aside0.mk (below_step (by repeat (first | (with_reducible first | exact HB.out | apply below_alloc | apply pw_below_drewN | apply below_drew1 | refine below_set ?_ GE170.out | refine below_set ?_ GE175.out | refine below_set ?_ GE184.out) | exact HB.out)) hb)
                                                clear HO173
                                                clear BK170
                                                clear BK175
                                                clear BK184
                                                clear HB
                                                have HO173 := n0_
                                                have HO178 := n1_
                                                have BK170 := n2_
                                                have BK175 := n3_
                                                have BK184 := n4_
                                                have HB := n5_
                                                clear n0_ n1_ n2_ n3_ n4_ n5_
                                                clear hb ho32
                                                refine hK.out _ _ ⟨(blk_cell BK175.out 0).trans rfl, (blk_cell BK175.out 1).trans rfl, (blk_cell BK175.out 2).trans rfl, (blk_cell BK170.out 0).trans rfl, (blk_cell BK170.out 1).trans rfl⟩ (fun hHeld => ?_)
                                                clear hK K
                                                refine norm_ (a' := ?_) ?_ ?_
                                                rotate_left
                                                · show Act.put _ (some 40) _ = _
                                                  simp only [Act.put, List.setIfInBounds_toArray, List.set_cons_zero, List.set_cons_succ, i64_w, i32_w]
                                                  rfl
                                                exact norm_ (by first | (simp only [putAll, Act.put, List.setIfInBounds_toArray, List.set_cons_zero, List.set_cons_succ]; done) | (simp only [putAll, Act.put, List.setIfInBounds_toArray, List.set_cons_zero, List.set_cons_succ]; rfl)) (hJ5_12 (v177, gb184) _ ⟨hHeld, (by (with_reducible repeat (first | apply Kd.R_alloc | apply Kd.R_drewN | apply Kd.R_drew)); exact HO173.out), (by (with_reducible repeat (first | apply MR.R_alloc | apply MR.R_drewN | apply MR.R_drew)); exact HO178.out), (by (with_reducible repeat (first | refine blk_drewN ?_ _ | refine blk_drew ?_ | refine blk_alloc ?_ _)); exact BK170.out), (by (with_reducible repeat (first | refine blk_drewN ?_ _ | refine blk_drew ?_ | refine blk_alloc ?_ _)); exact BK175.out), (by (with_reducible repeat (first | refine blk_drewN ?_ _ | refine blk_drew ?_ | refine blk_alloc ?_ _)); exact BK184.out), GW184.out, GE184.out, NB170_184.out, NB184_170.out, NB175_184.out, NB184_175.out, (by repeat (first | (with_reducible first | exact HB.out | apply below_alloc | apply pw_below_drewN | apply below_drew1 | refine below_set ?_ GE170.out | refine below_set ?_ GE175.out | refine below_set ?_ GE184.out) | exact HB.out))⟩)
                                              · skip
                                                refine box_step ?hg (N := 12) ?hd (cs := #[.int .i64 0, .int .i64 0]) (t := 30) ?hr ?_; (case hd => rfl); (case hg => rfl); (case hr => first | (go_simp; done) | (go_simp; rfl))
                                                intro gb185 hg w31 hbox hb
                                                have n0_ := Aside0.mk (Kd.R_below (by (with_reducible repeat (first | apply Kd.R_alloc | apply Kd.R_drewN | apply Kd.R_drew)); exact HO173.out) hb)
                                                have n1_ := Aside0.mk (blk_below (g := gb170) (o := .cells #[.int .i64 a2_0, .int .i64 a2_1] 27 (0, 0)) (by (with_reducible repeat (first | refine blk_drewN ?_ _ | refine blk_drew ?_ | refine blk_alloc ?_ _)); exact BK170.out) hb)
                                                have n2_ := Aside0.mk (blk_below (g := gb175) (o := .cells #[.string ((rd_T38 t171 (ji6)).f0), .int .i64 ((rd_T38 t171 (ji6)).f1), .int .i64 ((rd_T38 t171 (ji6)).f2)] 38 (0, 0)) (by (with_reducible repeat (first | refine blk_drewN ?_ _ | refine blk_drew ?_ | refine blk_alloc ?_ _)); exact BK175.out) hb)
                                                have n3_ := Aside0.mk (blk_below (g := gb184) (o := .cells #[.int .i64 0, .int .i64 0] 27 (0, 0)) (by (with_reducible repeat (first | refine blk_drewN ?_ _ | refine blk_drew ?_ | refine blk_alloc ?_ _)); exact BK184.out) hb)
                                                have n4_ := Aside0.mk (below_step (by repeat (first | (with_reducible first | exact HB.out | apply below_alloc | apply pw_below_drewN | apply below_drew1 | refine below_set ?_ GE170.out | refine below_set ?_ GE175.out | refine below_set ?_ GE184.out) | exact HB.out)) hb)
                                                have n5_ := Aside0.mk (hbox)
                                                have n6_ := Aside0.mk ((by rw [hg]; exact (below_size (by repeat (first | (with_reducible first | exact HB.out | apply below_alloc | apply pw_below_drewN | apply below_drew1 | refine below_set ?_ GE170.out | refine below_set ?_ GE175.out | refine below_set ?_ GE184.out) | exact HB.out))) : w.heap.size ≤ gb185))
                                                have n7_ := Aside0.mk ((by rw [hg]; exact (below_size (by repeat (first | (with_reducible first | exact HB.out | apply below_alloc | apply pw_below_drewN | apply below_drew1 | refine below_set ?_ GE170.out | refine below_set ?_ GE175.out | refine below_set ?_ GE184.out) | exact HB.out))) : w.heap.size ≤ gb185))
                                                have n8_ := Aside0.mk ((by rw [hg]; exact Nat.ne_of_lt (blk_lt (g := gb170) (o := .cells #[.int .i64 a2_0, .int .i64 a2_1] 27 (0, 0)) (by (with_reducible repeat (first | refine blk_drewN ?_ _ | refine blk_drew ?_ | refine blk_alloc ?_ _)); exact BK170.out)) : gb170 ≠ gb185))
                                                have n9_ := Aside0.mk ((by rw [hg]; exact Nat.ne_of_gt (blk_lt (g := gb170) (o := .cells #[.int .i64 a2_0, .int .i64 a2_1] 27 (0, 0)) (by (with_reducible repeat (first | refine blk_drewN ?_ _ | refine blk_drew ?_ | refine blk_alloc ?_ _)); exact BK170.out)) : gb185 ≠ gb170))
                                                have n10_ := Aside0.mk ((by rw [hg]; exact Nat.ne_of_lt (blk_lt (g := gb175) (o := .cells #[.string ((rd_T38 t171 (ji6)).f0), .int .i64 ((rd_T38 t171 (ji6)).f1), .int .i64 ((rd_T38 t171 (ji6)).f2)] 38 (0, 0)) (by (with_reducible repeat (first | refine blk_drewN ?_ _ | refine blk_drew ?_ | refine blk_alloc ?_ _)); exact BK175.out)) : gb175 ≠ gb185))
                                                have n11_ := Aside0.mk ((by rw [hg]; exact Nat.ne_of_gt (blk_lt (g := gb175) (o := .cells #[.string ((rd_T38 t171 (ji6)).f0), .int .i64 ((rd_T38 t171 (ji6)).f1), .int .i64 ((rd_T38 t171 (ji6)).f2)] 38 (0, 0)) (by (with_reducible repeat (first | refine blk_drewN ?_ _ | refine blk_drew ?_ | refine blk_alloc ?_ _)); exact BK175.out)) : gb185 ≠ gb175))
                                                have n12_ := Aside0.mk ((by rw [hg]; exact Nat.ne_of_lt (blk_lt (g := gb184) (o := .cells #[.int .i64 0, .int .i64 0] 27 (0, 0)) (by (with_reducible repeat (first | refine blk_drewN ?_ _ | refine blk_drew ?_ | refine blk_alloc ?_ _)); exact BK184.out)) : gb184 ≠ gb185))
                                                have n13_ := Aside0.mk ((by rw [hg]; exact Nat.ne_of_gt (blk_lt (g := gb184) (o := .cells #[.int .i64 0, .int .i64 0] 27 (0, 0)) (by (with_reducible repeat (first | refine blk_drewN ?_ _ | refine blk_drew ?_ | refine blk_alloc ?_ _)); exact BK184.out)) : gb185 ≠ gb184))
                                                clear HO173
                                                clear BK170
                                                clear BK175
                                                clear BK184
                                                clear HB
                                                have HO173 := n0_
                                                have BK170 := n1_
                                                have BK175 := n2_
                                                have BK184 := n3_
                                                have HB := n4_
                                                have BK185 := n5_
                                                have GW185 := n6_
                                                have GE185 := n7_
                                                have NB170_185 := n8_
                                                have NB185_170 := n9_
                                                have NB175_185 := n10_
                                                have NB185_175 := n11_
                                                have NB184_185 := n12_
                                                have NB185_184 := n13_
                                                clear n0_ n1_ n2_ n3_ n4_ n5_ n6_ n7_ n8_ n9_ n10_ n11_ n12_ n13_
                                                clear hb hbox hg
                                                refine hK.out _ _ ⟨(blk_cell BK175.out 0).trans rfl, (blk_cell BK175.out 1).trans rfl, (blk_cell BK175.out 2).trans rfl, (blk_cell BK170.out 0).trans rfl, (blk_cell BK170.out 1).trans rfl⟩ (fun hHeld => ?_)
                                                clear hK K
                                                refine norm_ (a' := ?_) ?_ ?_
                                                rotate_left
                                                · show Act.put _ (some 12) _ = _
                                                  simp only [Act.put, List.setIfInBounds_toArray, List.set_cons_zero, List.set_cons_succ, i64_w, i32_w]
                                                  rfl
                                                exact norm_ (by first | (simp only [putAll, Act.put, List.setIfInBounds_toArray, List.set_cons_zero, List.set_cons_succ]; done) | (simp only [putAll, Act.put, List.setIfInBounds_toArray, List.set_cons_zero, List.set_cons_succ]; rfl)) (hJ12_13 (gb184, gb185) _ ⟨hHeld, (by (with_reducible repeat (first | apply Kd.R_alloc | apply Kd.R_drewN | apply Kd.R_drew)); exact HO173.out), (by (with_reducible repeat (first | refine blk_drewN ?_ _ | refine blk_drew ?_ | refine blk_alloc ?_ _)); exact BK170.out), (by (with_reducible repeat (first | refine blk_drewN ?_ _ | refine blk_drew ?_ | refine blk_alloc ?_ _)); exact BK175.out), (by (with_reducible repeat (first | refine blk_drewN ?_ _ | refine blk_drew ?_ | refine blk_alloc ?_ _)); exact BK184.out), (by (with_reducible repeat (first | refine blk_drewN ?_ _ | refine blk_drew ?_ | refine blk_alloc ?_ _)); exact BK185.out), GW184.out, GE184.out, NB170_184.out, NB184_170.out, NB175_184.out, NB184_175.out, NB185_184.out, NB184_185.out, GW185.out, GE185.out, NB170_185.out, NB185_170.out, NB175_185.out, NB185_175.out, (by repeat (first | (with_reducible first | exact HB.out | apply below_alloc | apply pw_below_drewN | apply below_drew1 | refine below_set ?_ GE170.out | refine below_set ?_ GE175.out | refine below_set ?_ GE184.out | refine below_set ?_ GE185.out) | exact HB.out))⟩)
                                          · skip
                                            rintro v177 w31 ⟨hS_, h0_, h1_, h2_, h3_, h4_⟩
                                            have n0_ : Aside0 (Kd.R k38 38 w31 w.heap.size (fun k_ => k_ ≠ gb175) (.slice (some ad174) t171.length co23) t171) := ⟨h0_⟩
                                            have n1_ : Aside0 (MR 5 w31 w.heap.size (fun _ => True) v177 y176) := ⟨h1_⟩
                                            have n2_ : Aside0 (w31.heap[gb170]? = some (.cells #[.int .i64 a2_0, .int .i64 a2_1] 27 (0, 0))) := ⟨h2_⟩
                                            have n3_ : Aside0 (w31.heap[gb175]? = some (.cells #[.string ((rd_T38 t171 (ji6)).f0), .int .i64 ((rd_T38 t171 (ji6)).f1), .int .i64 ((rd_T38 t171 (ji6)).f2)] 38 (0, 0))) := ⟨h3_⟩
                                            have n4_ : Aside0 (Below w.heap.size w w31) := ⟨h4_⟩
                                            clear HO173
                                            clear BK170
                                            clear BK175
                                            clear HB
                                            clear h0_ h1_ h2_ h3_ h4_
                                            have HO173 := n0_
                                            have HO178 := n1_
                                            have BK170 := n2_
                                            have BK175 := n3_
                                            have HB := n4_
                                            clear n0_ n1_ n2_ n3_ n4_
                                            have hHeld : w31.cell? ⟨gb175, 0, none⟩ = some (.string ((rd_T38 t171 (ji6)).f0)) ∧ w31.cell? ⟨gb175, 1, none⟩ = some (.int .i64 ((rd_T38 t171 (ji6)).f1)) ∧ w31.cell? ⟨gb175, 2, none⟩ = some (.int .i64 ((rd_T38 t171 (ji6)).f2)) ∧ w31.cell? ⟨gb170, 0, none⟩ = some (.int .i64 a2_0) ∧ w31.cell? ⟨gb170, 1, none⟩ = some (.int .i64 a2_1) := hS_
                                            obtain ⟨Ao32, co32, eo32⟩ := MR.R_slice HO178.out
                                            (first | subst eo32 | (injection eo32 with f1_ f2_ f3_; have f4_ := f1_.symm; have f5_ := f3_.symm; clear f1_ f2_ f3_; subst f4_; subst f5_))
                                            refine norm_ (a' := ?_) ?_ ?_
                                            rotate_left
                                            · simp only [putAll, Act.put, List.setIfInBounds_toArray, List.set_cons_zero, List.set_cons_succ]
                                              rfl
                                            refine three_ (i := 7) (j := 12) (k := 13) (Ni := some 42) (Nj := some 10) (Nk := some 12) #[true, true, true, true, true, true, true, true, false, false, false, false, false, false, false, false, false] #[true, true, true, true, true, true, true, false, false, false, false, false, true, false, false, false, false] #[true, true, true, true, true, true, true, false, false, false, false, false, false, true, false, false, false] rfl rfl rfl rfl rfl rfl (three_of HT_.out (by kernel_rfl)) (by decide) (by decide) (by decide) (fun K hK => ?_) (fun K hK => ?_) (fun K hK => ?_)
                                            · skip
                                              refine goes_ Try.func23 (by kernel_rfl) rfl #[.slice Ao32 y176.length co32, .int .i64 1, .agg #[.int .i64 a2_0, .int .i64 a2_1]] (by rfl) rfl rfl (by (try simp only [List.map_toArray, List.map_cons, List.map_nil]); first | done | rfl | (simp only [List.length_drop, List.length_take]; rfl)) ?_
                                              with_reducible refine (escape_Next.calls k _ _ y176 1 a2_0 a2_1 t179 t180 t181 t182 t183 _ ?side1 ?side2 A14.out).mono ?_
                                              (case side1 => repeat (first | exact (MR.R_reads' HO178.out).2.2 | (with_reducible refine Kd.C_alloc ?_ _) | (with_reducible refine Kd.C_drewN ?_ _) | (with_reducible refine Kd.C_drew ?_)))
                                              (case side2 => exact (MR.R_reads' HO178.out).2.1)
                                              rintro e w33 ⟨rfl, hb⟩
                                              refine ⟨_, rfl, ?_⟩
                                              have n0_ := Aside0.mk (Kd.R_below (by (with_reducible repeat (first | apply Kd.R_alloc | apply Kd.R_drewN | apply Kd.R_drew)); exact HO173.out) hb)
                                              have n1_ := Aside0.mk (MR.R_below (by (with_reducible repeat (first | apply MR.R_alloc | apply MR.R_drewN | apply MR.R_drew)); exact HO178.out) hb)
                                              have n2_ := Aside0.mk (blk_below (g := gb170) (o := .cells #[.int .i64 a2_0, .int .i64 a2_1] 27 (0, 0)) (by (with_reducible repeat (first | refine blk_drewN ?_ _ | refine blk_drew ?_ | refine blk_alloc ?_ _)); exact BK170.out) hb)
                                              have n3_ := Aside0.mk (blk_below (g := gb175) (o := .cells #[.string ((rd_T38 t171 (ji6)).f0), .int .i64 ((rd_T38 t171 (ji6)).f1), .int .i64 ((rd_T38 t171 (ji6)).f2)] 38 (0, 0)) (by (with_reducible repeat (first | refine blk_drewN ?_ _ | refine blk_drew ?_ | refine blk_alloc ?_ _)); exact BK175.out) hb)
                                              have n4_ := Aside0.mk (below_step (by repeat (first | (with_reducible first | exact HB.out | apply below_alloc | apply pw_below_drewN | apply below_drew1 | refine below_set ?_ GE170.out | refine below_set ?_ GE175.out) | exact HB.out)) hb)
                                              clear HO173
                                              clear HO178
                                              clear BK170
                                              clear BK175
                                              clear HB
                                              have HO173 := n0_
                                              have HO178 := n1_
                                              have BK170 := n2_
                                              have BK175 := n3_
                                              have HB := n4_
                                              clear n0_ n1_ n2_ n3_ n4_
                                              (try clear hb)
                                              (try clear hb2)
                                              (try clear hk)
                                              (try clear hi)
                                              refine hK.out _ _ ⟨(blk_cell BK175.out 0).trans rfl, (blk_cell BK175.out 1).trans rfl, (blk_cell BK175.out 2).trans rfl, (blk_cell BK170.out 0).trans rfl, (blk_cell BK170.out 1).trans rfl⟩ (fun hHeld => ?_)
                                              clear hK K
                                              refine norm_ (a' := ?_) ?_ ?_
                                              rotate_left
                                              · show Act.put _ (some 42) _ = _
                                                simp only [Act.put, List.setIfInBounds_toArray, List.set_cons_zero, List.set_cons_succ, i64_w, i32_w]
                                                rfl
                                              refine pure_ (i := 8) (N := some 34) (v := ?_) (a' := ?_) #[true, true, true, true, true, true, true, true, true, false, false, false, false, false, false, false, false] rfl rfl (any_of HT_.out (by kernel_rfl)) (fun _ _ _ h => h) (Or.inl ⟨by rfl, ?_⟩) ?_ ?_
                                              rotate_left
                                              · intro w'
                                                go_simp
                                                with_reducible rfl
                                              rotate_left
                                              · simp only [Act.put, List.setIfInBounds_toArray, List.set_cons_zero, List.set_cons_succ, i64_w, i32_w]
                                                rfl
                                              refine pure_ (i := 9) (N := some 43) (v := ?_) (a' := ?_) #[true, true, true, true, true, true, true, true, true, true, false, false, false, false, false, false, false] rfl rfl (any_of HT_.out (by kernel_rfl)) (fun _ _ _ h => h) (Or.inl ⟨by rfl, ?_⟩) ?_ ?_
                                              rotate_left
                                              · intro w'
                                                go_simp
                                                with_reducible rfl
                                              rotate_left
                                              · simp only [Act.put, List.setIfInBounds_toArray, List.set_cons_zero, List.set_cons_succ, i64_w, i32_w]
                                                rfl
                                              refine pure_ (i := 10) (N := some 44) (v := ?_) (a' := ?_) #[true, true, true, true, true, true, true, true, true, true, true, false, false, false, false, false, false] rfl rfl (any_of HT_.out (by kernel_rfl)) (fun _ _ _ h => h) (Or.inl ⟨by rfl, ?_⟩) ?_ ?_
                                              rotate_left
                                              · intro w'
                                                go_simp
                                                with_reducible rfl
                                              rotate_left
                                              · simp only [Act.put, List.setIfInBounds_toArray, List.set_cons_zero, List.set_cons_succ, i64_w, i32_w]
                                                rfl
                                              refine pure_ (i := 11) (N := some 45) (v := ?_) (a' := ?_) #[true, true, true, true, true, true, true, true, true, true, true, true, false, false, false, false, false] rfl rfl (any_of HT_.out (by kernel_rfl)) (fun _ _ _ h => h) (Or.inl ⟨by rfl, ?_⟩) ?_ ?_
                                              rotate_left
                                              · intro w'
                                                go_simp
                                                with_reducible rfl
                                              rotate_left
                                              · simp only [Act.put, List.setIfInBounds_toArray, List.set_cons_zero, List.set_cons_succ, i64_w, i32_w]
                                                rfl
                                              exact norm_ (by first | (simp only [putAll, Act.put, List.setIfInBounds_toArray, List.set_cons_zero, List.set_cons_succ]; done) | (simp only [putAll, Act.put, List.setIfInBounds_toArray, List.set_cons_zero, List.set_cons_succ]; rfl)) (hJ5_7 (.slice Ao32 y176.length co32) _ ⟨hHeld, (by (with_reducible repeat (first | apply Kd.R_alloc | apply Kd.R_drewN | apply Kd.R_drew)); exact HO173.out), (by (with_reducible repeat (first | apply MR.R_alloc | apply MR.R_drewN | apply MR.R_drew)); exact HO178.out), (by (with_reducible repeat (first | refine blk_drewN ?_ _ | refine blk_drew ?_ | refine blk_alloc ?_ _)); exact BK170.out), (by (with_reducible repeat (first | refine blk_drewN ?_ _ | refine blk_drew ?_ | refine blk_alloc ?_ _)); exact BK175.out), (by repeat (first | (with_reducible first | exact HB.out | apply below_alloc | apply pw_below_drewN | apply below_drew1 | refine below_set ?_ GE170.out | refine below_set ?_ GE175.out) | exact HB.out))⟩)
                                            · skip
                                              refine box_step ?hg (N := 10) ?hd (cs := #[.int .i64 0, .int .i64 0]) (t := 27) ?hr ?_; (case hd => rfl); (case hg => rfl); (case hr => first | (go_simp; done) | (go_simp; rfl))
                                              intro gb184 hg w32 hbox hb
                                              have n0_ := Aside0.mk (Kd.R_below (by (with_reducible repeat (first | apply Kd.R_alloc | apply Kd.R_drewN | apply Kd.R_drew)); exact HO173.out) hb)
                                              have n1_ := Aside0.mk (MR.R_below (by (with_reducible repeat (first | apply MR.R_alloc | apply MR.R_drewN | apply MR.R_drew)); exact HO178.out) hb)
                                              have n2_ := Aside0.mk (blk_below (g := gb170) (o := .cells #[.int .i64 a2_0, .int .i64 a2_1] 27 (0, 0)) (by (with_reducible repeat (first | refine blk_drewN ?_ _ | refine blk_drew ?_ | refine blk_alloc ?_ _)); exact BK170.out) hb)
                                              have n3_ := Aside0.mk (blk_below (g := gb175) (o := .cells #[.string ((rd_T38 t171 (ji6)).f0), .int .i64 ((rd_T38 t171 (ji6)).f1), .int .i64 ((rd_T38 t171 (ji6)).f2)] 38 (0, 0)) (by (with_reducible repeat (first | refine blk_drewN ?_ _ | refine blk_drew ?_ | refine blk_alloc ?_ _)); exact BK175.out) hb)
                                              have n4_ := Aside0.mk (below_step (by repeat (first | (with_reducible first | exact HB.out | apply below_alloc | apply pw_below_drewN | apply below_drew1 | refine below_set ?_ GE170.out | refine below_set ?_ GE175.out) | exact HB.out)) hb)
                                              have n5_ := Aside0.mk (hbox)
                                              have n6_ := Aside0.mk ((by rw [hg]; exact (below_size (by repeat (first | (with_reducible first | exact HB.out | apply below_alloc | apply pw_below_drewN | apply below_drew1 | refine below_set ?_ GE170.out | refine below_set ?_ GE175.out) | exact HB.out))) : w.heap.size ≤ gb184))
                                              have n7_ := Aside0.mk ((by rw [hg]; exact (below_size (by repeat (first | (with_reducible first | exact HB.out | apply below_alloc | apply pw_below_drewN | apply below_drew1 | refine below_set ?_ GE170.out | refine below_set ?_ GE175.out) | exact HB.out))) : w.heap.size ≤ gb184))
                                              have n8_ := Aside0.mk ((by rw [hg]; exact Nat.ne_of_lt (blk_lt (g := gb170) (o := .cells #[.int .i64 a2_0, .int .i64 a2_1] 27 (0, 0)) (by (with_reducible repeat (first | refine blk_drewN ?_ _ | refine blk_drew ?_ | refine blk_alloc ?_ _)); exact BK170.out)) : gb170 ≠ gb184))
                                              have n9_ := Aside0.mk ((by rw [hg]; exact Nat.ne_of_gt (blk_lt (g := gb170) (o := .cells #[.int .i64 a2_0, .int .i64 a2_1] 27 (0, 0)) (by (with_reducible repeat (first | refine blk_drewN ?_ _ | refine blk_drew ?_ | refine blk_alloc ?_ _)); exact BK170.out)) : gb184 ≠ gb170))
                                              have n10_ := Aside0.mk ((by rw [hg]; exact Nat.ne_of_lt (blk_lt (g := gb175) (o := .cells #[.string ((rd_T38 t171 (ji6)).f0), .int .i64 ((rd_T38 t171 (ji6)).f1), .int .i64 ((rd_T38 t171 (ji6)).f2)] 38 (0, 0)) (by (with_reducible repeat (first | refine blk_drewN ?_ _ | refine blk_drew ?_ | refine blk_alloc ?_ _)); exact BK175.out)) : gb175 ≠ gb184))
                                              have n11_ := Aside0.mk ((by rw [hg]; exact Nat.ne_of_gt (blk_lt (g := gb175) (o := .cells #[.string ((rd_T38 t171 (ji6)).f0), .int .i64 ((rd_T38 t171 (ji6)).f1), .int .i64 ((rd_T38 t171 (ji6)).f2)] 38 (0, 0)) (by (with_reducible repeat (first | refine blk_drewN ?_ _ | refine blk_drew ?_ | refine blk_alloc ?_ _)); exact BK175.out)) : gb184 ≠ gb175))
                                              clear HO173
                                              clear HO178
                                              clear BK170
                                              clear BK175
                                              clear HB
                                              have HO173 := n0_
                                              have HO178 := n1_
                                              have BK170 := n2_
                                              have BK175 := n3_
                                              have HB := n4_
                                              have BK184 := n5_
                                              have GW184 := n6_
                                              have GE184 := n7_
                                              have NB170_184 := n8_
                                              have NB184_170 := n9_
                                              have NB175_184 := n10_
                                              have NB184_175 := n11_
                                              clear n0_ n1_ n2_ n3_ n4_ n5_ n6_ n7_ n8_ n9_ n10_ n11_
                                              clear hb hbox hg
                                              refine hK.out _ _ ⟨(blk_cell BK175.out 0).trans rfl, (blk_cell BK175.out 1).trans rfl, (blk_cell BK175.out 2).trans rfl, (blk_cell BK170.out 0).trans rfl, (blk_cell BK170.out 1).trans rfl⟩ (fun hHeld => ?_)
                                              clear hK K
                                              refine norm_ (a' := ?_) ?_ ?_
                                              rotate_left
                                              · show Act.put _ (some 10) _ = _
                                                simp only [Act.put, List.setIfInBounds_toArray, List.set_cons_zero, List.set_cons_succ, i64_w, i32_w]
                                                rfl
                                              exact norm_ (by first | (simp only [putAll, Act.put, List.setIfInBounds_toArray, List.set_cons_zero, List.set_cons_succ]; done) | (simp only [putAll, Act.put, List.setIfInBounds_toArray, List.set_cons_zero, List.set_cons_succ]; rfl)) (hJ5_12 ((.slice Ao32 y176.length co32), gb184) _ ⟨hHeld, (by (with_reducible repeat (first | apply Kd.R_alloc | apply Kd.R_drewN | apply Kd.R_drew)); exact HO173.out), (by (with_reducible repeat (first | apply MR.R_alloc | apply MR.R_drewN | apply MR.R_drew)); exact HO178.out), (by (with_reducible repeat (first | refine blk_drewN ?_ _ | refine blk_drew ?_ | refine blk_alloc ?_ _)); exact BK170.out), (by (with_reducible repeat (first | refine blk_drewN ?_ _ | refine blk_drew ?_ | refine blk_alloc ?_ _)); exact BK175.out), (by (with_reducible repeat (first | refine blk_drewN ?_ _ | refine blk_drew ?_ | refine blk_alloc ?_ _)); exact BK184.out), GW184.out, GE184.out, NB170_184.out, NB184_170.out, NB175_184.out, NB184_175.out, (by repeat (first | (with_reducible first | exact HB.out | apply below_alloc | apply pw_below_drewN | apply below_drew1 | refine below_set ?_ GE170.out | refine below_set ?_ GE175.out | refine below_set ?_ GE184.out) | exact HB.out))⟩)
                                            · skip
                                              refine box_step ?hg (N := 12) ?hd (cs := #[.int .i64 0, .int .i64 0]) (t := 30) ?hr ?_; (case hd => rfl); (case hg => rfl); (case hr => first | (go_simp; done) | (go_simp; rfl))
                                              intro gb185 hg w32 hbox hb
                                              have n0_ := Aside0.mk (Kd.R_below (by (with_reducible repeat (first | apply Kd.R_alloc | apply Kd.R_drewN | apply Kd.R_drew)); exact HO173.out) hb)
                                              have n1_ := Aside0.mk (MR.R_below (by (with_reducible repeat (first | apply MR.R_alloc | apply MR.R_drewN | apply MR.R_drew)); exact HO178.out) hb)
                                              have n2_ := Aside0.mk (blk_below (g := gb170) (o := .cells #[.int .i64 a2_0, .int .i64 a2_1] 27 (0, 0)) (by (with_reducible repeat (first | refine blk_drewN ?_ _ | refine blk_drew ?_ | refine blk_alloc ?_ _)); exact BK170.out) hb)
                                              have n3_ := Aside0.mk (blk_below (g := gb175) (o := .cells #[.string ((rd_T38 t171 (ji6)).f0), .int .i64 ((rd_T38 t171 (ji6)).f1), .int .i64 ((rd_T38 t171 (ji6)).f2)] 38 (0, 0)) (by (with_reducible repeat (first | refine blk_drewN ?_ _ | refine blk_drew ?_ | refine blk_alloc ?_ _)); exact BK175.out) hb)
                                              have n4_ := Aside0.mk (below_step (by repeat (first | (with_reducible first | exact HB.out | apply below_alloc | apply pw_below_drewN | apply below_drew1 | refine below_set ?_ GE170.out | refine below_set ?_ GE175.out) | exact HB.out)) hb)
                                              have n5_ := Aside0.mk (hbox)
                                              have n6_ := Aside0.mk ((by rw [hg]; exact (below_size (by repeat (first | (with_reducible first | exact HB.out | apply below_alloc | apply pw_below_drewN | apply below_drew1 | refine below_set ?_ GE170.out | refine below_set ?_ GE175.out) | exact HB.out))) : w.heap.size ≤ gb185))
                                              have n7_ := Aside0.mk ((by rw [hg]; exact (below_size (by repeat (first | (with_reducible first | exact HB.out | apply below_alloc | apply pw_below_drewN | apply below_drew1 | refine below_set ?_ GE170.out | refine below_set ?_ GE175.out) | exact HB.out))) : w.heap.size ≤ gb185))
                                              have n8_ := Aside0.mk ((by rw [hg]; exact Nat.ne_of_lt (blk_lt (g := gb170) (o := .cells #[.int .i64 a2_0, .int .i64 a2_1] 27 (0, 0)) (by (with_reducible repeat (first | refine blk_drewN ?_ _ | refine blk_drew ?_ | refine blk_alloc ?_ _)); exact BK170.out)) : gb170 ≠ gb185))
                                              have n9_ := Aside0.mk ((by rw [hg]; exact Nat.ne_of_gt (blk_lt (g := gb170) (o := .cells #[.int .i64 a2_0, .int .i64 a2_1] 27 (0, 0)) (by (with_reducible repeat (first | refine blk_drewN ?_ _ | refine blk_drew ?_ | refine blk_alloc ?_ _)); exact BK170.out)) : gb185 ≠ gb170))
                                              have n10_ := Aside0.mk ((by rw [hg]; exact Nat.ne_of_lt (blk_lt (g := gb175) (o := .cells #[.string ((rd_T38 t171 (ji6)).f0), .int .i64 ((rd_T38 t171 (ji6)).f1), .int .i64 ((rd_T38 t171 (ji6)).f2)] 38 (0, 0)) (by (with_reducible repeat (first | refine blk_drewN ?_ _ | refine blk_drew ?_ | refine blk_alloc ?_ _)); exact BK175.out)) : gb175 ≠ gb185))
                                              have n11_ := Aside0.mk ((by rw [hg]; exact Nat.ne_of_gt (blk_lt (g := gb175) (o := .cells #[.string ((rd_T38 t171 (ji6)).f0), .int .i64 ((rd_T38 t171 (ji6)).f1), .int .i64 ((rd_T38 t171 (ji6)).f2)] 38 (0, 0)) (by (with_reducible repeat (first | refine blk_drewN ?_ _ | refine blk_drew ?_ | refine blk_alloc ?_ _)); exact BK175.out)) : gb185 ≠ gb175))
                                              clear HO173
                                              clear HO178
                                              clear BK170
                                              clear BK175
                                              clear HB
                                              have HO173 := n0_
                                              have HO178 := n1_
                                              have BK170 := n2_
                                              have BK175 := n3_
                                              have HB := n4_
                                              have BK185 := n5_
                                              have GW185 := n6_
                                              have GE185 := n7_
                                              have NB170_185 := n8_
                                              have NB185_170 := n9_
                                              have NB175_185 := n10_
                                              have NB185_175 := n11_
                                              clear n0_ n1_ n2_ n3_ n4_ n5_ n6_ n7_ n8_ n9_ n10_ n11_
                                              clear hb hbox hg
                                              refine hK.out _ _ ⟨(blk_cell BK175.out 0).trans rfl, (blk_cell BK175.out 1).trans rfl, (blk_cell BK175.out 2).trans rfl, (blk_cell BK170.out 0).trans rfl, (blk_cell BK170.out 1).trans rfl⟩ (fun hHeld => ?_)
                                              clear hK K
                                              refine norm_ (a' := ?_) ?_ ?_
                                              rotate_left
                                              · show Act.put _ (some 12) _ = _
                                                simp only [Act.put, List.setIfInBounds_toArray, List.set_cons_zero, List.set_cons_succ, i64_w, i32_w]
                                                rfl
                                              exact norm_ (by first | (simp only [putAll, Act.put, List.setIfInBounds_toArray, List.set_cons_zero, List.set_cons_succ]; done) | (simp only [putAll, Act.put, List.setIfInBounds_toArray, List.set_cons_zero, List.set_cons_succ]; rfl)) (hJ5_13 ((.slice Ao32 y176.length co32), gb185) _ ⟨hHeld, (by (with_reducible repeat (first | apply Kd.R_alloc | apply Kd.R_drewN | apply Kd.R_drew)); exact HO173.out), (by (with_reducible repeat (first | apply MR.R_alloc | apply MR.R_drewN | apply MR.R_drew)); exact HO178.out), (by (with_reducible repeat (first | refine blk_drewN ?_ _ | refine blk_drew ?_ | refine blk_alloc ?_ _)); exact BK170.out), (by (with_reducible repeat (first | refine blk_drewN ?_ _ | refine blk_drew ?_ | refine blk_alloc ?_ _)); exact BK175.out), (by (with_reducible repeat (first | refine blk_drewN ?_ _ | refine blk_drew ?_ | refine blk_alloc ?_ _)); exact BK185.out), GW185.out, GE185.out, NB170_185.out, NB185_170.out, NB175_185.out, NB185_175.out, (by repeat (first | (with_reducible first | exact HB.out | apply below_alloc | apply pw_below_drewN | apply below_drew1 | refine below_set ?_ GE170.out | refine below_set ?_ GE175.out | refine below_set ?_ GE185.out) | exact HB.out))⟩)
                                        · skip
                                          rintro ⟨gb184, gb185⟩ w31 ⟨hS_, h0_, h1_, h2_, h3_, h4_, h5_, h6_, h7_, h8_, h9_, h10_, h11_, h12_, h13_, h14_, h15_, h16_, h17_, h18_, h19_⟩
                                          have n0_ : Aside0 (Kd.R k38 38 w31 w.heap.size (fun k_ => k_ ≠ gb175) (.slice (some ad174) t171.length co23) t171) := ⟨h0_⟩
                                          have n1_ : Aside0 (w31.heap[gb170]? = some (.cells #[.int .i64 a2_0, .int .i64 a2_1] 27 (0, 0))) := ⟨h1_⟩
                                          have n2_ : Aside0 (w31.heap[gb175]? = some (.cells #[.string ((rd_T38 t171 (ji6)).f0), .int .i64 ((rd_T38 t171 (ji6)).f1), .int .i64 ((rd_T38 t171 (ji6)).f2)] 38 (0, 0))) := ⟨h2_⟩
                                          have n3_ : Aside0 (w31.heap[gb184]? = some (.cells #[.int .i64 0, .int .i64 0] 27 (0, 0))) := ⟨h3_⟩
                                          have n4_ : Aside0 (w31.heap[gb185]? = some (.cells #[.int .i64 0, .int .i64 0] 30 (0, 0))) := ⟨h4_⟩
                                          have n5_ : Aside0 (w.heap.size ≤ gb184) := ⟨h5_⟩
                                          have n6_ : Aside0 (w.heap.size ≤ gb184) := ⟨h6_⟩
                                          have n7_ : Aside0 (gb170 ≠ gb184) := ⟨h7_⟩
                                          have n8_ : Aside0 (gb184 ≠ gb170) := ⟨h8_⟩
                                          have n9_ : Aside0 (gb175 ≠ gb184) := ⟨h9_⟩
                                          have n10_ : Aside0 (gb184 ≠ gb175) := ⟨h10_⟩
                                          have n11_ : Aside0 (gb185 ≠ gb184) := ⟨h11_⟩
                                          have n12_ : Aside0 (gb184 ≠ gb185) := ⟨h12_⟩
                                          have n13_ : Aside0 (w.heap.size ≤ gb185) := ⟨h13_⟩
                                          have n14_ : Aside0 (w.heap.size ≤ gb185) := ⟨h14_⟩
                                          have n15_ : Aside0 (gb170 ≠ gb185) := ⟨h15_⟩
                                          have n16_ : Aside0 (gb185 ≠ gb170) := ⟨h16_⟩
                                          have n17_ : Aside0 (gb175 ≠ gb185) := ⟨h17_⟩
                                          have n18_ : Aside0 (gb185 ≠ gb175) := ⟨h18_⟩
                                          have n19_ : Aside0 (Below w.heap.size w w31) := ⟨h19_⟩
                                          clear HO173
                                          clear BK170
                                          clear BK175
                                          clear HB
                                          clear h0_ h1_ h2_ h3_ h4_ h5_ h6_ h7_ h8_ h9_ h10_ h11_ h12_ h13_ h14_ h15_ h16_ h17_ h18_ h19_
                                          have HO173 := n0_
                                          have BK170 := n1_
                                          have BK175 := n2_
                                          have BK184 := n3_
                                          have BK185 := n4_
                                          have GW184 := n5_
                                          have GE184 := n6_
                                          have NB170_184 := n7_
                                          have NB184_170 := n8_
                                          have NB175_184 := n9_
                                          have NB184_175 := n10_
                                          have NB185_184 := n11_
                                          have NB184_185 := n12_
                                          have GW185 := n13_
                                          have GE185 := n14_
                                          have NB170_185 := n15_
                                          have NB185_170 := n16_
                                          have NB175_185 := n17_
                                          have NB185_175 := n18_
                                          have HB := n19_
                                          clear n0_ n1_ n2_ n3_ n4_ n5_ n6_ n7_ n8_ n9_ n10_ n11_ n12_ n13_ n14_ n15_ n16_ n17_ n18_ n19_
                                          have hHeld : w31.cell? ⟨gb175, 0, none⟩ = some (.string ((rd_T38 t171 (ji6)).f0)) ∧ w31.cell? ⟨gb175, 1, none⟩ = some (.int .i64 ((rd_T38 t171 (ji6)).f1)) ∧ w31.cell? ⟨gb175, 2, none⟩ = some (.int .i64 ((rd_T38 t171 (ji6)).f2)) ∧ w31.cell? ⟨gb170, 0, none⟩ = some (.int .i64 a2_0) ∧ w31.cell? ⟨gb170, 1, none⟩ = some (.int .i64 a2_1) := hS_
                                          refine norm_ (a' := ?_) ?_ ?_
                                          rotate_left
                                          · simp only [putAll, Act.put, List.setIfInBounds_toArray, List.set_cons_zero, List.set_cons_succ]
                                            rfl
                                          refine one_ (i := 5) (N := some 40) #[true, true, true, true, true, true, true, false, false, false, false, false, true, true, false, false, false] rfl rfl (one_of HT_.out (by kernel_rfl)) (by decide) (fun K hK => ?_)
                                          refine MR.lit_step (ok := fun _ => True) ((⟨#[97]⟩ : ByteArray) ++ ((rd_T38 t171 (ji6)).f0).extract 0 1) y176 Ny176.out SBy176 5 ?hg (N := 40) ?hd ?hr trivial ?_; (case hd => rfl); (case hg => rfl); (case hr => first | (go_simp; done) | (go_simp; rfl))
                                          intro v177 w32 ho33 hb hg_ hnew_
                                          clear hg_ hnew_
                                          skip
                                          have n0_ := Aside0.mk (Kd.R_below (by (with_reducible repeat (first | apply Kd.R_alloc | apply Kd.R_drewN | apply Kd.R_drew)); exact HO173.out) hb)
                                          have n1_ := Aside0.mk (MR.R_lower ho33 (below_size (by repeat (first | (with_reducible first | exact HB.out | apply below_alloc | apply pw_below_drewN | apply below_drew1 | refine below_set ?_ GE170.out | refine below_set ?_ GE175.out | refine below_set ?_ GE184.out | refine below_set ?_ GE185.out) | exact HB.out))))
                                          have n2_ := Aside0.mk (blk_below (g := gb170) (o := .cells #[.int .i64 a2_0, .int .i64 a2_1] 27 (0, 0)) (by (with_reducible repeat (first | refine blk_drewN ?_ _ | refine blk_drew ?_ | refine blk_alloc ?_ _)); exact BK170.out) hb)
                                          have n3_ := Aside0.mk (blk_below (g := gb175) (o := .cells #[.string ((rd_T38 t171 (ji6)).f0), .int .i64 ((rd_T38 t171 (ji6)).f1), .int .i64 ((rd_T38 t171 (ji6)).f2)] 38 (0, 0)) (by (with_reducible repeat (first | refine blk_drewN ?_ _ | refine blk_drew ?_ | refine blk_alloc ?_ _)); exact BK175.out) hb)
                                          have n4_ := Aside0.mk (blk_below (g := gb184) (o := .cells #[.int .i64 0, .int .i64 0] 27 (0, 0)) (by (with_reducible repeat (first | refine blk_drewN ?_ _ | refine blk_drew ?_ | refine blk_alloc ?_ _)); exact BK184.out) hb)
                                          have n5_ := Aside0.mk (blk_below (g := gb185) (o := .cells #[.int .i64 0, .int .i64 0] 30 (0, 0)) (by (with_reducible repeat (first | refine blk_drewN ?_ _ | refine blk_drew ?_ | refine blk_alloc ?_ _)); exact BK185.out) hb)
                                          have n6_ := Aside0.mk (below_step (by repeat (first | (with_reducible first | exact HB.out | apply below_alloc | apply pw_below_drewN | apply below_drew1 | refine below_set ?_ GE170.out | refine below_set ?_ GE175.out | refine below_set ?_ GE184.out | refine below_set ?_ GE185.out) | exact HB.out)) hb)
                                          clear HO173
                                          clear BK170
                                          clear BK175
                                          clear BK184
                                          clear BK185
                                          clear HB
                                          have HO173 := n0_
                                          have HO178 := n1_
                                          have BK170 := n2_
                                          have BK175 := n3_
                                          have BK184 := n4_
                                          have BK185 := n5_
                                          have HB := n6_
                                          clear n0_ n1_ n2_ n3_ n4_ n5_ n6_
                                          clear hb ho33
                                          refine hK.out _ _ ⟨(blk_cell BK175.out 0).trans rfl, (blk_cell BK175.out 1).trans rfl, (blk_cell BK175.out 2).trans rfl, (blk_cell BK170.out 0).trans rfl, (blk_cell BK170.out 1).trans rfl⟩ (fun hHeld => ?_)
                                          clear hK K
                                          refine norm_ (a' := ?_) ?_ ?_
                                          rotate_left
                                          · show Act.put _ (some 40) _ = _
                                            simp only [Act.put, List.setIfInBounds_toArray, List.set_cons_zero, List.set_cons_succ, i64_w, i32_w]
                                            rfl
                                          exact norm_ (by first | (simp only [putAll, Act.put, List.setIfInBounds_toArray, List.set_cons_zero, List.set_cons_succ]; done) | (simp only [putAll, Act.put, List.setIfInBounds_toArray, List.set_cons_zero, List.set_cons_succ]; rfl)) (hJ5_12_13 (v177, gb184, gb185) _ ⟨hHeld, (by (with_reducible repeat (first | apply Kd.R_alloc | apply Kd.R_drewN | apply Kd.R_drew)); exact HO173.out), (by (with_reducible repeat (first | apply MR.R_alloc | apply MR.R_drewN | apply MR.R_drew)); exact HO178.out), (by (with_reducible repeat (first | refine blk_drewN ?_ _ | refine blk_drew ?_ | refine blk_alloc ?_ _)); exact BK170.out), (by (with_reducible repeat (first | refine blk_drewN ?_ _ | refine blk_drew ?_ | refine blk_alloc ?_ _)); exact BK175.out), (by (with_reducible repeat (first | refine blk_drewN ?_ _ | refine blk_drew ?_ | refine blk_alloc ?_ _)); exact BK184.out), (by (with_reducible repeat (first | refine blk_drewN ?_ _ | refine blk_drew ?_ | refine blk_alloc ?_ _)); exact BK185.out), GW184.out, GE184.out, NB170_184.out, NB184_170.out, NB175_184.out, NB184_175.out, NB185_184.out, NB184_185.out, GW185.out, GE185.out, NB170_185.out, NB185_170.out, NB175_185.out, NB185_175.out, (by repeat (first | (with_reducible first | exact HB.out | apply below_alloc | apply pw_below_drewN | apply below_drew1 | refine below_set ?_ GE170.out | refine below_set ?_ GE175.out | refine below_set ?_ GE184.out | refine below_set ?_ GE185.out) | exact HB.out))⟩)
                                      · skip
                                        rintro ⟨v177, gb185⟩ w32 ⟨hS_, h0_, h1_, h2_, h3_, h4_, h5_, h6_, h7_, h8_, h9_, h10_, h11_⟩
                                        have n0_ : Aside0 (Kd.R k38 38 w32 w.heap.size (fun k_ => k_ ≠ gb175) (.slice (some ad174) t171.length co23) t171) := ⟨h0_⟩
                                        have n1_ : Aside0 (MR 5 w32 w.heap.size (fun _ => True) v177 y176) := ⟨h1_⟩
                                        have n2_ : Aside0 (w32.heap[gb170]? = some (.cells #[.int .i64 a2_0, .int .i64 a2_1] 27 (0, 0))) := ⟨h2_⟩
                                        have n3_ : Aside0 (w32.heap[gb175]? = some (.cells #[.string ((rd_T38 t171 (ji6)).f0), .int .i64 ((rd_T38 t171 (ji6)).f1), .int .i64 ((rd_T38 t171 (ji6)).f2)] 38 (0, 0))) := ⟨h3_⟩
                                        have n4_ : Aside0 (w32.heap[gb185]? = some (.cells #[.int .i64 0, .int .i64 0] 30 (0, 0))) := ⟨h4_⟩
                                        have n5_ : Aside0 (w.heap.size ≤ gb185) := ⟨h5_⟩
                                        have n6_ : Aside0 (w.heap.size ≤ gb185) := ⟨h6_⟩
                                        have n7_ : Aside0 (gb170 ≠ gb185) := ⟨h7_⟩
                                        have n8_ : Aside0 (gb185 ≠ gb170) := ⟨h8_⟩
                                        have n9_ : Aside0 (gb175 ≠ gb185) := ⟨h9_⟩
                                        have n10_ : Aside0 (gb185 ≠ gb175) := ⟨h10_⟩
                                        have n11_ : Aside0 (Below w.heap.size w w32) := ⟨h11_⟩
                                        clear HO173
                                        clear BK170
                                        clear BK175
                                        clear HB
                                        clear h0_ h1_ h2_ h3_ h4_ h5_ h6_ h7_ h8_ h9_ h10_ h11_
                                        have HO173 := n0_
                                        have HO178 := n1_
                                        have BK170 := n2_
                                        have BK175 := n3_
                                        have BK185 := n4_
                                        have GW185 := n5_
                                        have GE185 := n6_
                                        have NB170_185 := n7_
                                        have NB185_170 := n8_
                                        have NB175_185 := n9_
                                        have NB185_175 := n10_
                                        have HB := n11_
                                        clear n0_ n1_ n2_ n3_ n4_ n5_ n6_ n7_ n8_ n9_ n10_ n11_
                                        have hHeld : w32.cell? ⟨gb175, 0, none⟩ = some (.string ((rd_T38 t171 (ji6)).f0)) ∧ w32.cell? ⟨gb175, 1, none⟩ = some (.int .i64 ((rd_T38 t171 (ji6)).f1)) ∧ w32.cell? ⟨gb175, 2, none⟩ = some (.int .i64 ((rd_T38 t171 (ji6)).f2)) ∧ w32.cell? ⟨gb170, 0, none⟩ = some (.int .i64 a2_0) ∧ w32.cell? ⟨gb170, 1, none⟩ = some (.int .i64 a2_1) := hS_
                                        obtain ⟨Ao33, co33, eo33⟩ := MR.R_slice HO178.out
                                        (first | subst eo33 | (injection eo33 with f1_ f2_ f3_; have f4_ := f1_.symm; have f5_ := f3_.symm; clear f1_ f2_ f3_; subst f4_; subst f5_))
                                        refine norm_ (a' := ?_) ?_ ?_
                                        rotate_left
                                        · simp only [putAll, Act.put, List.setIfInBounds_toArray, List.set_cons_zero, List.set_cons_succ]
                                          rfl
                                        refine two_ (i := 7) (j := 12) (Ni := some 42) (Nj := some 10) #[true, true, true, true, true, true, true, true, false, false, false, false, false, true, false, false, false] #[true, true, true, true, true, true, true, false, false, false, false, false, true, true, false, false, false] rfl rfl rfl rfl (two_of HT_.out (by kernel_rfl)) (by decide) (by decide) (fun K hK => ?_) (fun K hK => ?_)
                                        · skip
                                          refine goes_ Try.func23 (by kernel_rfl) rfl #[.slice Ao33 y176.length co33, .int .i64 1, .agg #[.int .i64 a2_0, .int .i64 a2_1]] (by rfl) rfl rfl (by (try simp only [List.map_toArray, List.map_cons, List.map_nil]); first | done | rfl | (simp only [List.length_drop, List.length_take]; rfl)) ?_
                                          with_reducible refine (escape_Next.calls k _ _ y176 1 a2_0 a2_1 t179 t180 t181 t182 t183 _ ?side1 ?side2 A14.out).mono ?_
                                          (case side1 => repeat (first | exact (MR.R_reads' HO178.out).2.2 | (with_reducible refine Kd.C_alloc ?_ _) | (with_reducible refine Kd.C_drewN ?_ _) | (with_reducible refine Kd.C_drew ?_)))
                                          (case side2 => exact (MR.R_reads' HO178.out).2.1)
                                          rintro e w34 ⟨rfl, hb⟩
                                          refine ⟨_, rfl, ?_⟩
                                          have n0_ := Aside0.mk (Kd.R_below (by (with_reducible repeat (first | apply Kd.R_alloc | apply Kd.R_drewN | apply Kd.R_drew)); exact HO173.out) hb)
                                          have n1_ := Aside0.mk (MR.R_below (by (with_reducible repeat (first | apply MR.R_alloc | apply MR.R_drewN | apply MR.R_drew)); exact HO178.out) hb)
                                          have n2_ := Aside0.mk (blk_below (g := gb170) (o := .cells #[.int .i64 a2_0, .int .i64 a2_1] 27 (0, 0)) (by (with_reducible repeat (first | refine blk_drewN ?_ _ | refine blk_drew ?_ | refine blk_alloc ?_ _)); exact BK170.out) hb)
                                          have n3_ := Aside0.mk (blk_below (g := gb175) (o := .cells #[.string ((rd_T38 t171 (ji6)).f0), .int .i64 ((rd_T38 t171 (ji6)).f1), .int .i64 ((rd_T38 t171 (ji6)).f2)] 38 (0, 0)) (by (with_reducible repeat (first | refine blk_drewN ?_ _ | refine blk_drew ?_ | refine blk_alloc ?_ _)); exact BK175.out) hb)
                                          have n4_ := Aside0.mk (blk_below (g := gb185) (o := .cells #[.int .i64 0, .int .i64 0] 30 (0, 0)) (by (with_reducible repeat (first | refine blk_drewN ?_ _ | refine blk_drew ?_ | refine blk_alloc ?_ _)); exact BK185.out) hb)
                                          have n5_ := Aside0.mk (below_step (by repeat (first | (with_reducible first | exact HB.out | apply below_alloc | apply pw_below_drewN | apply below_drew1 | refine below_set ?_ GE170.out | refine below_set ?_ GE175.out | refine below_set ?_ GE185.out) | exact HB.out)) hb)
                                          clear HO173
                                          clear HO178
                                          clear BK170
                                          clear BK175
                                          clear BK185
                                          clear HB
                                          have HO173 := n0_
                                          have HO178 := n1_
                                          have BK170 := n2_
                                          have BK175 := n3_
                                          have BK185 := n4_
                                          have HB := n5_
                                          clear n0_ n1_ n2_ n3_ n4_ n5_
                                          (try clear hb)
                                          (try clear hb2)
                                          (try clear hk)
                                          (try clear hi)
                                          refine hK.out _ _ ⟨(blk_cell BK175.out 0).trans rfl, (blk_cell BK175.out 1).trans rfl, (blk_cell BK175.out 2).trans rfl, (blk_cell BK170.out 0).trans rfl, (blk_cell BK170.out 1).trans rfl⟩ (fun hHeld => ?_)
                                          clear hK K
                                          refine norm_ (a' := ?_) ?_ ?_
                                          rotate_left
                                          · show Act.put _ (some 42) _ = _
                                            simp only [Act.put, List.setIfInBounds_toArray, List.set_cons_zero, List.set_cons_succ, i64_w, i32_w]
                                            rfl
                                          refine pure_ (i := 8) (N := some 34) (v := ?_) (a' := ?_) #[true, true, true, true, true, true, true, true, true, false, false, false, false, true, false, false, false] rfl rfl (any_of HT_.out (by kernel_rfl)) (fun _ _ _ h => h) (Or.inl ⟨by rfl, ?_⟩) ?_ ?_
                                          rotate_left
                                          · intro w'
                                            go_simp
                                            with_reducible rfl
                                          rotate_left
                                          · simp only [Act.put, List.setIfInBounds_toArray, List.set_cons_zero, List.set_cons_succ, i64_w, i32_w]
                                            rfl
                                          refine pure_ (i := 9) (N := some 43) (v := ?_) (a' := ?_) #[true, true, true, true, true, true, true, true, true, true, false, false, false, true, false, false, false] rfl rfl (any_of HT_.out (by kernel_rfl)) (fun _ _ _ h => h) (Or.inl ⟨by rfl, ?_⟩) ?_ ?_
                                          rotate_left
                                          · intro w'
                                            go_simp
                                            with_reducible rfl
                                          rotate_left
                                          · simp only [Act.put, List.setIfInBounds_toArray, List.set_cons_zero, List.set_cons_succ, i64_w, i32_w]
                                            rfl
                                          refine pure_ (i := 10) (N := some 44) (v := ?_) (a' := ?_) #[true, true, true, true, true, true, true, true, true, true, true, false, false, true, false, false, false] rfl rfl (any_of HT_.out (by kernel_rfl)) (fun _ _ _ h => h) (Or.inl ⟨by rfl, ?_⟩) ?_ ?_
                                          rotate_left
                                          · intro w'
                                            go_simp
                                            with_reducible rfl
                                          rotate_left
                                          · simp only [Act.put, List.setIfInBounds_toArray, List.set_cons_zero, List.set_cons_succ, i64_w, i32_w]
                                            rfl
                                          refine pure_ (i := 11) (N := some 45) (v := ?_) (a' := ?_) #[true, true, true, true, true, true, true, true, true, true, true, true, false, true, false, false, false] rfl rfl (any_of HT_.out (by kernel_rfl)) (fun _ _ _ h => h) (Or.inl ⟨by rfl, ?_⟩) ?_ ?_
                                          rotate_left
                                          · intro w'
                                            go_simp
                                            with_reducible rfl
                                          rotate_left
                                          · simp only [Act.put, List.setIfInBounds_toArray, List.set_cons_zero, List.set_cons_succ, i64_w, i32_w]
                                            rfl
                                          exact norm_ (by first | (simp only [putAll, Act.put, List.setIfInBounds_toArray, List.set_cons_zero, List.set_cons_succ]; done) | (simp only [putAll, Act.put, List.setIfInBounds_toArray, List.set_cons_zero, List.set_cons_succ]; rfl)) (hJ5_7_13 (.slice Ao33 y176.length co33, gb185) _ ⟨hHeld, (by (with_reducible repeat (first | apply Kd.R_alloc | apply Kd.R_drewN | apply Kd.R_drew)); exact HO173.out), (by (with_reducible repeat (first | apply MR.R_alloc | apply MR.R_drewN | apply MR.R_drew)); exact HO178.out), (by (with_reducible repeat (first | refine blk_drewN ?_ _ | refine blk_drew ?_ | refine blk_alloc ?_ _)); exact BK170.out), (by (with_reducible repeat (first | refine blk_drewN ?_ _ | refine blk_drew ?_ | refine blk_alloc ?_ _)); exact BK175.out), (by (with_reducible repeat (first | refine blk_drewN ?_ _ | refine blk_drew ?_ | refine blk_alloc ?_ _)); exact BK185.out), GW185.out, GE185.out, NB170_185.out, NB185_170.out, NB175_185.out, NB185_175.out, (by repeat (first | (with_reducible first | exact HB.out | apply below_alloc | apply pw_below_drewN | apply below_drew1 | refine below_set ?_ GE170.out | refine below_set ?_ GE175.out | refine below_set ?_ GE185.out) | exact HB.out))⟩)
                                        · skip
                                          refine box_step ?hg (N := 10) ?hd (cs := #[.int .i64 0, .int .i64 0]) (t := 27) ?hr ?_; (case hd => rfl); (case hg => rfl); (case hr => first | (go_simp; done) | (go_simp; rfl))
                                          intro gb184 hg w33 hbox hb
                                          have n0_ := Aside0.mk (Kd.R_below (by (with_reducible repeat (first | apply Kd.R_alloc | apply Kd.R_drewN | apply Kd.R_drew)); exact HO173.out) hb)
                                          have n1_ := Aside0.mk (MR.R_below (by (with_reducible repeat (first | apply MR.R_alloc | apply MR.R_drewN | apply MR.R_drew)); exact HO178.out) hb)
                                          have n2_ := Aside0.mk (blk_below (g := gb170) (o := .cells #[.int .i64 a2_0, .int .i64 a2_1] 27 (0, 0)) (by (with_reducible repeat (first | refine blk_drewN ?_ _ | refine blk_drew ?_ | refine blk_alloc ?_ _)); exact BK170.out) hb)
                                          have n3_ := Aside0.mk (blk_below (g := gb175) (o := .cells #[.string ((rd_T38 t171 (ji6)).f0), .int .i64 ((rd_T38 t171 (ji6)).f1), .int .i64 ((rd_T38 t171 (ji6)).f2)] 38 (0, 0)) (by (with_reducible repeat (first | refine blk_drewN ?_ _ | refine blk_drew ?_ | refine blk_alloc ?_ _)); exact BK175.out) hb)
                                          have n4_ := Aside0.mk (blk_below (g := gb185) (o := .cells #[.int .i64 0, .int .i64 0] 30 (0, 0)) (by (with_reducible repeat (first | refine blk_drewN ?_ _ | refine blk_drew ?_ | refine blk_alloc ?_ _)); exact BK185.out) hb)
                                          have n5_ := Aside0.mk (below_step (by repeat (first | (with_reducible first | exact HB.out | apply below_alloc | apply pw_below_drewN | apply below_drew1 | refine below_set ?_ GE170.out | refine below_set ?_ GE175.out | refine below_set ?_ GE185.out) | exact HB.out)) hb)
                                          have n6_ := Aside0.mk (hbox)
                                          have n7_ := Aside0.mk ((by rw [hg]; exact (below_size (by repeat (first | (with_reducible first | exact HB.out | apply below_alloc | apply pw_below_drewN | apply below_drew1 | refine below_set ?_ GE170.out | refine below_set ?_ GE175.out | refine below_set ?_ GE185.out) | exact HB.out))) : w.heap.size ≤ gb184))
                                          have n8_ := Aside0.mk ((by rw [hg]; exact (below_size (by repeat (first | (with_reducible first | exact HB.out | apply below_alloc | apply pw_below_drewN | apply below_drew1 | refine below_set ?_ GE170.out | refine below_set ?_ GE175.out | refine below_set ?_ GE185.out) | exact HB.out))) : w.heap.size ≤ gb184))
                                          have n9_ := Aside0.mk ((by rw [hg]; exact Nat.ne_of_lt (blk_lt (g := gb170) (o := .cells #[.int .i64 a2_0, .int .i64 a2_1] 27 (0, 0)) (by (with_reducible repeat (first | refine blk_drewN ?_ _ | refine blk_drew ?_ | refine blk_alloc ?_ _)); exact BK170.out)) : gb170 ≠ gb184))
                                          have n10_ := Aside0.mk ((by rw [hg]; exact Nat.ne_of_gt (blk_lt (g := gb170) (o := .cells #[.int .i64 a2_0, .int .i64 a2_1] 27 (0, 0)) (by (with_reducible repeat (first | refine blk_drewN ?_ _ | refine blk_drew ?_ | refine blk_alloc ?_ _)); exact BK170.out)) : gb184 ≠ gb170))
                                          have n11_ := Aside0.mk ((by rw [hg]; exact Nat.ne_of_lt (blk_lt (g := gb175) (o := .cells #[.string ((rd_T38 t171 (ji6)).f0), .int .i64 ((rd_T38 t171 (ji6)).f1), .int .i64 ((rd_T38 t171 (ji6)).f2)] 38 (0, 0)) (by (with_reducible repeat (first | refine blk_drewN ?_ _ | refine blk_drew ?_ | refine blk_alloc ?_ _)); exact BK175.out)) : gb175 ≠ gb184))
                                          have n12_ := Aside0.mk ((by rw [hg]; exact Nat.ne_of_gt (blk_lt (g := gb175) (o := .cells #[.string ((rd_T38 t171 (ji6)).f0), .int .i64 ((rd_T38 t171 (ji6)).f1), .int .i64 ((rd_T38 t171 (ji6)).f2)] 38 (0, 0)) (by (with_reducible repeat (first | refine blk_drewN ?_ _ | refine blk_drew ?_ | refine blk_alloc ?_ _)); exact BK175.out)) : gb184 ≠ gb175))
                                          have n13_ := Aside0.mk ((by rw [hg]; exact Nat.ne_of_lt (blk_lt (g := gb185) (o := .cells #[.int .i64 0, .int .i64 0] 30 (0, 0)) (by (with_reducible repeat (first | refine blk_drewN ?_ _ | refine blk_drew ?_ | refine blk_alloc ?_ _)); exact BK185.out)) : gb185 ≠ gb184))
                                          have n14_ := Aside0.mk ((by rw [hg]; exact Nat.ne_of_gt (blk_lt (g := gb185) (o := .cells #[.int .i64 0, .int .i64 0] 30 (0, 0)) (by (with_reducible repeat (first | refine blk_drewN ?_ _ | refine blk_drew ?_ | refine blk_alloc ?_ _)); exact BK185.out)) : gb184 ≠ gb185))
                                          clear HO173
                                          clear HO178
                                          clear BK170
                                          clear BK175
                                          clear BK185
                                          clear HB
                                          have HO173 := n0_
                                          have HO178 := n1_
                                          have BK170 := n2_
                                          have BK175 := n3_
                                          have BK185 := n4_
                                          have HB := n5_
                                          have BK184 := n6_
                                          have GW184 := n7_
                                          have GE184 := n8_
                                          have NB170_184 := n9_
                                          have NB184_170 := n10_
                                          have NB175_184 := n11_
                                          have NB184_175 := n12_
                                          have NB185_184 := n13_
                                          have NB184_185 := n14_
                                          clear n0_ n1_ n2_ n3_ n4_ n5_ n6_ n7_ n8_ n9_ n10_ n11_ n12_ n13_ n14_
                                          clear hb hbox hg
                                          refine hK.out _ _ ⟨(blk_cell BK175.out 0).trans rfl, (blk_cell BK175.out 1).trans rfl, (blk_cell BK175.out 2).trans rfl, (blk_cell BK170.out 0).trans rfl, (blk_cell BK170.out 1).trans rfl⟩ (fun hHeld => ?_)
                                          clear hK K
                                          refine norm_ (a' := ?_) ?_ ?_
                                          rotate_left
                                          · show Act.put _ (some 10) _ = _
                                            simp only [Act.put, List.setIfInBounds_toArray, List.set_cons_zero, List.set_cons_succ, i64_w, i32_w]
                                            rfl
                                          exact norm_ (by first | (simp only [putAll, Act.put, List.setIfInBounds_toArray, List.set_cons_zero, List.set_cons_succ]; done) | (simp only [putAll, Act.put, List.setIfInBounds_toArray, List.set_cons_zero, List.set_cons_succ]; rfl)) (hJ5_12_13 ((.slice Ao33 y176.length co33), gb184, gb185) _ ⟨hHeld, (by (with_reducible repeat (first | apply Kd.R_alloc | apply Kd.R_drewN | apply Kd.R_drew)); exact HO173.out), (by (with_reducible repeat (first | apply MR.R_alloc | apply MR.R_drewN | apply MR.R_drew)); exact HO178.out), (by (with_reducible repeat (first | refine blk_drewN ?_ _ | refine blk_drew ?_ | refine blk_alloc ?_ _)); exact BK170.out), (by (with_reducible repeat (first | refine blk_drewN ?_ _ | refine blk_drew ?_ | refine blk_alloc ?_ _)); exact BK175.out), (by (with_reducible repeat (first | refine blk_drewN ?_ _ | refine blk_drew ?_ | refine blk_alloc ?_ _)); exact BK184.out), (by (with_reducible repeat (first | refine blk_drewN ?_ _ | refine blk_drew ?_ | refine blk_alloc ?_ _)); exact BK185.out), GW184.out, GE184.out, NB170_184.out, NB184_170.out, NB175_184.out, NB184_175.out, NB185_184.out, NB184_185.out, GW185.out, GE185.out, NB170_185.out, NB185_170.out, NB175_185.out, NB185_175.out, (by repeat (first | (with_reducible first | exact HB.out | apply below_alloc | apply pw_below_drewN | apply below_drew1 | refine below_set ?_ GE170.out | refine below_set ?_ GE175.out | refine below_set ?_ GE185.out | refine below_set ?_ GE184.out) | exact HB.out))⟩)
                                    · skip
                                      rintro ⟨v177, gb184⟩ w32 ⟨hS_, h0_, h1_, h2_, h3_, h4_, h5_, h6_, h7_, h8_, h9_, h10_, h11_⟩
                                      have n0_ : Aside0 (Kd.R k38 38 w32 w.heap.size (fun k_ => k_ ≠ gb175) (.slice (some ad174) t171.length co23) t171) := ⟨h0_⟩
                                      have n1_ : Aside0 (MR 5 w32 w.heap.size (fun _ => True) v177 y176) := ⟨h1_⟩
                                      have n2_ : Aside0 (w32.heap[gb170]? = some (.cells #[.int .i64 a2_0, .int .i64 a2_1] 27 (0, 0))) := ⟨h2_⟩
                                      have n3_ : Aside0 (w32.heap[gb175]? = some (.cells #[.string ((rd_T38 t171 (ji6)).f0), .int .i64 ((rd_T38 t171 (ji6)).f1), .int .i64 ((rd_T38 t171 (ji6)).f2)] 38 (0, 0))) := ⟨h3_⟩
                                      have n4_ : Aside0 (w32.heap[gb184]? = some (.cells #[.int .i64 0, .int .i64 0] 27 (0, 0))) := ⟨h4_⟩
                                      have n5_ : Aside0 (w.heap.size ≤ gb184) := ⟨h5_⟩
                                      have n6_ : Aside0 (w.heap.size ≤ gb184) := ⟨h6_⟩
                                      have n7_ : Aside0 (gb170 ≠ gb184) := ⟨h7_⟩
                                      have n8_ : Aside0 (gb184 ≠ gb170) := ⟨h8_⟩
                                      have n9_ : Aside0 (gb175 ≠ gb184) := ⟨h9_⟩
                                      have n10_ : Aside0 (gb184 ≠ gb175) := ⟨h10_⟩
                                      have n11_ : Aside0 (Below w.heap.size w w32) := ⟨h11_⟩
                                      clear HO173
                                      clear BK170
                                      clear BK175
                                      clear HB
                                      clear h0_ h1_ h2_ h3_ h4_ h5_ h6_ h7_ h8_ h9_ h10_ h11_
                                      have HO173 := n0_
                                      have HO178 := n1_
                                      have BK170 := n2_
                                      have BK175 := n3_
                                      have BK184 := n4_
                                      have GW184 := n5_
                                      have GE184 := n6_
                                      have NB170_184 := n7_
                                      have NB184_170 := n8_
                                      have NB175_184 := n9_
                                      have NB184_175 := n10_
                                      have HB := n11_
                                      clear n0_ n1_ n2_ n3_ n4_ n5_ n6_ n7_ n8_ n9_ n10_ n11_
                                      have hHeld : w32.cell? ⟨gb175, 0, none⟩ = some (.string ((rd_T38 t171 (ji6)).f0)) ∧ w32.cell? ⟨gb175, 1, none⟩ = some (.int .i64 ((rd_T38 t171 (ji6)).f1)) ∧ w32.cell? ⟨gb175, 2, none⟩ = some (.int .i64 ((rd_T38 t171 (ji6)).f2)) ∧ w32.cell? ⟨gb170, 0, none⟩ = some (.int .i64 a2_0) ∧ w32.cell? ⟨gb170, 1, none⟩ = some (.int .i64 a2_1) := hS_
                                      obtain ⟨Ao33, co33, eo33⟩ := MR.R_slice HO178.out
                                      (first | subst eo33 | (injection eo33 with f1_ f2_ f3_; have f4_ := f1_.symm; have f5_ := f3_.symm; clear f1_ f2_ f3_; subst f4_; subst f5_))
                                      refine norm_ (a' := ?_) ?_ ?_
                                      rotate_left
                                      · simp only [putAll, Act.put, List.setIfInBounds_toArray, List.set_cons_zero, List.set_cons_succ]
                                        rfl
                                      refine two_ (i := 7) (j := 13) (Ni := some 42) (Nj := some 12) #[true, true, true, true, true, true, true, true, false, false, false, false, true, false, false, false, false] #[true, true, true, true, true, true, true, false, false, false, false, false, true, true, false, false, false] rfl rfl rfl rfl (two_of HT_.out (by kernel_rfl)) (by decide) (by decide) (fun K hK => ?_) (fun K hK => ?_)
                                      · skip
                                        refine goes_ Try.func23 (by kernel_rfl) rfl #[.slice Ao33 y176.length co33, .int .i64 1, .agg #[.int .i64 a2_0, .int .i64 a2_1]] (by rfl) rfl rfl (by (try simp only [List.map_toArray, List.map_cons, List.map_nil]); first | done | rfl | (simp only [List.length_drop, List.length_take]; rfl)) ?_
                                        with_reducible refine (escape_Next.calls k _ _ y176 1 a2_0 a2_1 t179 t180 t181 t182 t183 _ ?side1 ?side2 A14.out).mono ?_
                                        (case side1 => repeat (first | exact (MR.R_reads' HO178.out).2.2 | (with_reducible refine Kd.C_alloc ?_ _) | (with_reducible refine Kd.C_drewN ?_ _) | (with_reducible refine Kd.C_drew ?_)))
                                        (case side2 => exact (MR.R_reads' HO178.out).2.1)
                                        rintro e w34 ⟨rfl, hb⟩
                                        refine ⟨_, rfl, ?_⟩
                                        have n0_ := Aside0.mk (Kd.R_below (by (with_reducible repeat (first | apply Kd.R_alloc | apply Kd.R_drewN | apply Kd.R_drew)); exact HO173.out) hb)
                                        have n1_ := Aside0.mk (MR.R_below (by (with_reducible repeat (first | apply MR.R_alloc | apply MR.R_drewN | apply MR.R_drew)); exact HO178.out) hb)
                                        have n2_ := Aside0.mk (blk_below (g := gb170) (o := .cells #[.int .i64 a2_0, .int .i64 a2_1] 27 (0, 0)) (by (with_reducible repeat (first | refine blk_drewN ?_ _ | refine blk_drew ?_ | refine blk_alloc ?_ _)); exact BK170.out) hb)
                                        have n3_ := Aside0.mk (blk_below (g := gb175) (o := .cells #[.string ((rd_T38 t171 (ji6)).f0), .int .i64 ((rd_T38 t171 (ji6)).f1), .int .i64 ((rd_T38 t171 (ji6)).f2)] 38 (0, 0)) (by (with_reducible repeat (first | refine blk_drewN ?_ _ | refine blk_drew ?_ | refine blk_alloc ?_ _)); exact BK175.out) hb)
                                        have n4_ := Aside0.mk (blk_below (g := gb184) (o := .cells #[.int .i64 0, .int .i64 0] 27 (0, 0)) (by (with_reducible repeat (first | refine blk_drewN ?_ _ | refine blk_drew ?_ | refine blk_alloc ?_ _)); exact BK184.out) hb)
                                        have n5_ := Aside0.mk (below_step (by repeat (first | (with_reducible first | exact HB.out | apply below_alloc | apply pw_below_drewN | apply below_drew1 | refine below_set ?_ GE170.out | refine below_set ?_ GE175.out | refine below_set ?_ GE184.out) | exact HB.out)) hb)
                                        clear HO173
                                        clear HO178
                                        clear BK170
                                        clear BK175
                                        clear BK184
                                        clear HB
                                        have HO173 := n0_
                                        have HO178 := n1_
                                        have BK170 := n2_
                                        have BK175 := n3_
                                        have BK184 := n4_
                                        have HB := n5_
                                        clear n0_ n1_ n2_ n3_ n4_ n5_
                                        (try clear hb)
                                        (try clear hb2)
                                        (try clear hk)
                                        (try clear hi)
                                        refine hK.out _ _ ⟨(blk_cell BK175.out 0).trans rfl, (blk_cell BK175.out 1).trans rfl, (blk_cell BK175.out 2).trans rfl, (blk_cell BK170.out 0).trans rfl, (blk_cell BK170.out 1).trans rfl⟩ (fun hHeld => ?_)
                                        clear hK K
                                        refine norm_ (a' := ?_) ?_ ?_
                                        rotate_left
                                        · show Act.put _ (some 42) _ = _
                                          simp only [Act.put, List.setIfInBounds_toArray, List.set_cons_zero, List.set_cons_succ, i64_w, i32_w]
                                          rfl
                                        refine pure_ (i := 8) (N := some 34) (v := ?_) (a' := ?_) #[true, true, true, true, true, true, true, true, true, false, false, false, true, false, false, false, false] rfl rfl (any_of HT_.out (by kernel_rfl)) (fun _ _ _ h => h) (Or.inl ⟨by rfl, ?_⟩) ?_ ?_
                                        rotate_left
                                        · intro w'
                                          go_simp
                                          with_reducible rfl
                                        rotate_left
                                        · simp only [Act.put, List.setIfInBounds_toArray, List.set_cons_zero, List.set_cons_succ, i64_w, i32_w]
                                          rfl
                                        refine pure_ (i := 9) (N := some 43) (v := ?_) (a' := ?_) #[true, true, true, true, true, true, true, true, true, true, false, false, true, false, false, false, false] rfl rfl (any_of HT_.out (by kernel_rfl)) (fun _ _ _ h => h) (Or.inl ⟨by rfl, ?_⟩) ?_ ?_
                                        rotate_left
                                        · intro w'
                                          go_simp
                                          with_reducible rfl
                                        rotate_left
                                        · simp only [Act.put, List.setIfInBounds_toArray, List.set_cons_zero, List.set_cons_succ, i64_w, i32_w]
                                          rfl
                                        refine pure_ (i := 10) (N := some 44) (v := ?_) (a' := ?_) #[true, true, true, true, true, true, true, true, true, true, true, false, true, false, false, false, false] rfl rfl (any_of HT_.out (by kernel_rfl)) (fun _ _ _ h => h) (Or.inl ⟨by rfl, ?_⟩) ?_ ?_
                                        rotate_left
                                        · intro w'
                                          go_simp
                                          with_reducible rfl
                                        rotate_left
                                        · simp only [Act.put, List.setIfInBounds_toArray, List.set_cons_zero, List.set_cons_succ, i64_w, i32_w]
                                          rfl
                                        refine pure_ (i := 11) (N := some 45) (v := ?_) (a' := ?_) #[true, true, true, true, true, true, true, true, true, true, true, true, true, false, false, false, false] rfl rfl (any_of HT_.out (by kernel_rfl)) (fun _ _ _ h => h) (Or.inl ⟨by rfl, ?_⟩) ?_ ?_
                                        rotate_left
                                        · intro w'
                                          go_simp
                                          with_reducible rfl
                                        rotate_left
                                        · simp only [Act.put, List.setIfInBounds_toArray, List.set_cons_zero, List.set_cons_succ, i64_w, i32_w]
                                          rfl
                                        exact norm_ (by first | (simp only [putAll, Act.put, List.setIfInBounds_toArray, List.set_cons_zero, List.set_cons_succ]; done) | (simp only [putAll, Act.put, List.setIfInBounds_toArray, List.set_cons_zero, List.set_cons_succ]; rfl)) (hJ5_7_12 (.slice Ao33 y176.length co33, gb184) _ ⟨hHeld, (by (with_reducible repeat (first | apply Kd.R_alloc | apply Kd.R_drewN | apply Kd.R_drew)); exact HO173.out), (by (with_reducible repeat (first | apply MR.R_alloc | apply MR.R_drewN | apply MR.R_drew)); exact HO178.out), (by (with_reducible repeat (first | refine blk_drewN ?_ _ | refine blk_drew ?_ | refine blk_alloc ?_ _)); exact BK170.out), (by (with_reducible repeat (first | refine blk_drewN ?_ _ | refine blk_drew ?_ | refine blk_alloc ?_ _)); exact BK175.out), (by (with_reducible repeat (first | refine blk_drewN ?_ _ | refine blk_drew ?_ | refine blk_alloc ?_ _)); exact BK184.out), GW184.out, GE184.out, NB170_184.out, NB184_170.out, NB175_184.out, NB184_175.out, (by repeat (first | (with_reducible first | exact HB.out | apply below_alloc | apply pw_below_drewN | apply below_drew1 | refine below_set ?_ GE170.out | refine below_set ?_ GE175.out | refine below_set ?_ GE184.out) | exact HB.out))⟩)
                                      · skip
                                        refine box_step ?hg (N := 12) ?hd (cs := #[.int .i64 0, .int .i64 0]) (t := 30) ?hr ?_; (case hd => rfl); (case hg => rfl); (case hr => first | (go_simp; done) | (go_simp; rfl))
                                        intro gb185 hg w33 hbox hb
                                        have n0_ := Aside0.mk (Kd.R_below (by (with_reducible repeat (first | apply Kd.R_alloc | apply Kd.R_drewN | apply Kd.R_drew)); exact HO173.out) hb)
                                        have n1_ := Aside0.mk (MR.R_below (by (with_reducible repeat (first | apply MR.R_alloc | apply MR.R_drewN | apply MR.R_drew)); exact HO178.out) hb)
                                        have n2_ := Aside0.mk (blk_below (g := gb170) (o := .cells #[.int .i64 a2_0, .int .i64 a2_1] 27 (0, 0)) (by (with_reducible repeat (first | refine blk_drewN ?_ _ | refine blk_drew ?_ | refine blk_alloc ?_ _)); exact BK170.out) hb)
                                        have n3_ := Aside0.mk (blk_below (g := gb175) (o := .cells #[.string ((rd_T38 t171 (ji6)).f0), .int .i64 ((rd_T38 t171 (ji6)).f1), .int .i64 ((rd_T38 t171 (ji6)).f2)] 38 (0, 0)) (by (with_reducible repeat (first | refine blk_drewN ?_ _ | refine blk_drew ?_ | refine blk_alloc ?_ _)); exact BK175.out) hb)
                                        have n4_ := Aside0.mk (blk_below (g := gb184) (o := .cells #[.int .i64 0, .int .i64 0] 27 (0, 0)) (by (with_reducible repeat (first | refine blk_drewN ?_ _ | refine blk_drew ?_ | refine blk_alloc ?_ _)); exact BK184.out) hb)
                                        have n5_ := Aside0.mk (below_step (by repeat (first | (with_reducible first | exact HB.out | apply below_alloc | apply pw_below_drewN | apply below_drew1 | refine below_set ?_ GE170.out | refine below_set ?_ GE175.out | refine below_set ?_ GE184.out) | exact HB.out)) hb)
                                        have n6_ := Aside0.mk (hbox)
                                        have n7_ := Aside0.mk ((by rw [hg]; exact (below_size (by repeat (first | (with_reducible first | exact HB.out | apply below_alloc | apply pw_below_drewN | apply below_drew1 | refine below_set ?_ GE170.out | refine below_set ?_ GE175.out | refine below_set ?_ GE184.out) | exact HB.out))) : w.heap.size ≤ gb185))
                                        have n8_ := Aside0.mk ((by rw [hg]; exact (below_size (by repeat (first | (with_reducible first | exact HB.out | apply below_alloc | apply pw_below_drewN | apply below_drew1 | refine below_set ?_ GE170.out | refine below_set ?_ GE175.out | refine below_set ?_ GE184.out) | exact HB.out))) : w.heap.size ≤ gb185))
                                        have n9_ := Aside0.mk ((by rw [hg]; exact Nat.ne_of_lt (blk_lt (g := gb170) (o := .cells #[.int .i64 a2_0, .int .i64 a2_1] 27 (0, 0)) (by (with_reducible repeat (first | refine blk_drewN ?_ _ | refine blk_drew ?_ | refine blk_alloc ?_ _)); exact BK170.out)) : gb170 ≠ gb185))
                                        have n10_ := Aside0.mk ((by rw [hg]; exact Nat.ne_of_gt (blk_lt (g := gb170) (o := .cells #[.int .i64 a2_0, .int .i64 a2_1] 27 (0, 0)) (by (with_reducible repeat (first | refine blk_drewN ?_ _ | refine blk_drew ?_ | refine blk_alloc ?_ _)); exact BK170.out)) : gb185 ≠ gb170))
                                        have n11_ := Aside0.mk ((by rw [hg]; exact Nat.ne_of_lt (blk_lt (g := gb175) (o := .cells #[.string ((rd_T38 t171 (ji6)).f0), .int .i64 ((rd_T38 t171 (ji6)).f1), .int .i64 ((rd_T38 t171 (ji6)).f2)] 38 (0, 0)) (by (with_reducible repeat (first | refine blk_drewN ?_ _ | refine blk_drew ?_ | refine blk_alloc ?_ _)); exact BK175.out)) : gb175 ≠ gb185))
                                        have n12_ := Aside0.mk ((by rw [hg]; exact Nat.ne_of_gt (blk_lt (g := gb175) (o := .cells #[.string ((rd_T38 t171 (ji6)).f0), .int .i64 ((rd_T38 t171 (ji6)).f1), .int .i64 ((rd_T38 t171 (ji6)).f2)] 38 (0, 0)) (by (with_reducible repeat (first | refine blk_drewN ?_ _ | refine blk_drew ?_ | refine blk_alloc ?_ _)); exact BK175.out)) : gb185 ≠ gb175))
                                        have n13_ := Aside0.mk ((by rw [hg]; exact Nat.ne_of_lt (blk_lt (g := gb184) (o := .cells #[.int .i64 0, .int .i64 0] 27 (0, 0)) (by (with_reducible repeat (first | refine blk_drewN ?_ _ | refine blk_drew ?_ | refine blk_alloc ?_ _)); exact BK184.out)) : gb184 ≠ gb185))
                                        have n14_ := Aside0.mk ((by rw [hg]; exact Nat.ne_of_gt (blk_lt (g := gb184) (o := .cells #[.int .i64 0, .int .i64 0] 27 (0, 0)) (by (with_reducible repeat (first | refine blk_drewN ?_ _ | refine blk_drew ?_ | refine blk_alloc ?_ _)); exact BK184.out)) : gb185 ≠ gb184))
                                        clear HO173
                                        clear HO178
                                        clear BK170
                                        clear BK175
                                        clear BK184
                                        clear HB
                                        have HO173 := n0_
                                        have HO178 := n1_
                                        have BK170 := n2_
                                        have BK175 := n3_
                                        have BK184 := n4_
                                        have HB := n5_
                                        have BK185 := n6_
                                        have GW185 := n7_
                                        have GE185 := n8_
                                        have NB170_185 := n9_
                                        have NB185_170 := n10_
                                        have NB175_185 := n11_
                                        have NB185_175 := n12_
                                        have NB184_185 := n13_
                                        have NB185_184 := n14_
                                        clear n0_ n1_ n2_ n3_ n4_ n5_ n6_ n7_ n8_ n9_ n10_ n11_ n12_ n13_ n14_
                                        clear hb hbox hg
                                        refine hK.out _ _ ⟨(blk_cell BK175.out 0).trans rfl, (blk_cell BK175.out 1).trans rfl, (blk_cell BK175.out 2).trans rfl, (blk_cell BK170.out 0).trans rfl, (blk_cell BK170.out 1).trans rfl⟩ (fun hHeld => ?_)
                                        clear hK K
                                        refine norm_ (a' := ?_) ?_ ?_
                                        rotate_left
                                        · show Act.put _ (some 12) _ = _
                                          simp only [Act.put, List.setIfInBounds_toArray, List.set_cons_zero, List.set_cons_succ, i64_w, i32_w]
                                          rfl
                                        exact norm_ (by first | (simp only [putAll, Act.put, List.setIfInBounds_toArray, List.set_cons_zero, List.set_cons_succ]; done) | (simp only [putAll, Act.put, List.setIfInBounds_toArray, List.set_cons_zero, List.set_cons_succ]; rfl)) (hJ5_12_13 ((.slice Ao33 y176.length co33), gb184, gb185) _ ⟨hHeld, (by (with_reducible repeat (first | apply Kd.R_alloc | apply Kd.R_drewN | apply Kd.R_drew)); exact HO173.out), (by (with_reducible repeat (first | apply MR.R_alloc | apply MR.R_drewN | apply MR.R_drew)); exact HO178.out), (by (with_reducible repeat (first | refine blk_drewN ?_ _ | refine blk_drew ?_ | refine blk_alloc ?_ _)); exact BK170.out), (by (with_reducible repeat (first | refine blk_drewN ?_ _ | refine blk_drew ?_ | refine blk_alloc ?_ _)); exact BK175.out), (by (with_reducible repeat (first | refine blk_drewN ?_ _ | refine blk_drew ?_ | refine blk_alloc ?_ _)); exact BK184.out), (by (with_reducible repeat (first | refine blk_drewN ?_ _ | refine blk_drew ?_ | refine blk_alloc ?_ _)); exact BK185.out), GW184.out, GE184.out, NB170_184.out, NB184_170.out, NB175_184.out, NB184_175.out, NB185_184.out, NB184_185.out, GW185.out, GE185.out, NB170_185.out, NB185_170.out, NB175_185.out, NB185_175.out, (by repeat (first | (with_reducible first | exact HB.out | apply below_alloc | apply pw_below_drewN | apply below_drew1 | refine below_set ?_ GE170.out | refine below_set ?_ GE175.out | refine below_set ?_ GE184.out | refine below_set ?_ GE185.out) | exact HB.out))⟩)
                                  · skip
                                    rintro v177 w33 ⟨hS_, h0_, h1_, h2_, h3_, h4_⟩
                                    have n0_ : Aside0 (Kd.R k38 38 w33 w.heap.size (fun k_ => k_ ≠ gb175) (.slice (some ad174) t171.length co23) t171) := ⟨h0_⟩
                                    have n1_ : Aside0 (MR 5 w33 w.heap.size (fun _ => True) v177 y176) := ⟨h1_⟩
                                    have n2_ : Aside0 (w33.heap[gb170]? = some (.cells #[.int .i64 a2_0, .int .i64 a2_1] 27 (0, 0))) := ⟨h2_⟩
                                    have n3_ : Aside0 (w33.heap[gb175]? = some (.cells #[.string ((rd_T38 t171 (ji6)).f0), .int .i64 ((rd_T38 t171 (ji6)).f1), .int .i64 ((rd_T38 t171 (ji6)).f2)] 38 (0, 0))) := ⟨h3_⟩
                                    have n4_ : Aside0 (Below w.heap.size w w33) := ⟨h4_⟩
                                    clear HO173
                                    clear BK170
                                    clear BK175
                                    clear HB
                                    clear h0_ h1_ h2_ h3_ h4_
                                    have HO173 := n0_
                                    have HO178 := n1_
                                    have BK170 := n2_
                                    have BK175 := n3_
                                    have HB := n4_
                                    clear n0_ n1_ n2_ n3_ n4_
                                    have hHeld : w33.cell? ⟨gb175, 0, none⟩ = some (.string ((rd_T38 t171 (ji6)).f0)) ∧ w33.cell? ⟨gb175, 1, none⟩ = some (.int .i64 ((rd_T38 t171 (ji6)).f1)) ∧ w33.cell? ⟨gb175, 2, none⟩ = some (.int .i64 ((rd_T38 t171 (ji6)).f2)) ∧ w33.cell? ⟨gb170, 0, none⟩ = some (.int .i64 a2_0) ∧ w33.cell? ⟨gb170, 1, none⟩ = some (.int .i64 a2_1) := hS_
                                    refine norm_ (a' := ?_) ?_ ?_
                                    rotate_left
                                    · simp only [putAll, Act.put, List.setIfInBounds_toArray, List.set_cons_zero, List.set_cons_succ]
                                      rfl
                                    refine two_ (i := 12) (j := 13) (Ni := some 10) (Nj := some 12) #[true, true, true, true, true, true, true, true, true, true, true, true, true, false, false, false, false] #[true, true, true, true, true, true, true, true, true, true, true, true, false, true, false, false, false] rfl rfl rfl rfl (two_of HT_.out (by kernel_rfl)) (by decide) (by decide) (fun K hK => ?_) (fun K hK => ?_)
                                    · skip
                                      refine box_step ?hg (N := 10) ?hd (cs := #[.int .i64 0, .int .i64 0]) (t := 27) ?hr ?_; (case hd => rfl); (case hg => rfl); (case hr => first | (go_simp; done) | (go_simp; rfl))
                                      intro gb184 hg w34 hbox hb
                                      have n0_ := Aside0.mk (Kd.R_below (by (with_reducible repeat (first | apply Kd.R_alloc | apply Kd.R_drewN | apply Kd.R_drew)); exact HO173.out) hb)
                                      have n1_ := Aside0.mk (MR.R_below (by (with_reducible repeat (first | apply MR.R_alloc | apply MR.R_drewN | apply MR.R_drew)); exact HO178.out) hb)
                                      have n2_ := Aside0.mk (blk_below (g := gb170) (o := .cells #[.int .i64 a2_0, .int .i64 a2_1] 27 (0, 0)) (by (with_reducible repeat (first | refine blk_drewN ?_ _ | refine blk_drew ?_ | refine blk_alloc ?_ _)); exact BK170.out) hb)
                                      have n3_ := Aside0.mk (blk_below (g := gb175) (o := .cells #[.string ((rd_T38 t171 (ji6)).f0), .int .i64 ((rd_T38 t171 (ji6)).f1), .int .i64 ((rd_T38 t171 (ji6)).f2)] 38 (0, 0)) (by (with_reducible repeat (first | refine blk_drewN ?_ _ | refine blk_drew ?_ | refine blk_alloc ?_ _)); exact BK175.out) hb)
                                      have n4_ := Aside0.mk (below_step (by repeat (first | (with_reducible first | exact HB.out | apply below_alloc | apply pw_below_drewN | apply below_drew1 | refine below_set ?_ GE170.out | refine below_set ?_ GE175.out) | exact HB.out)) hb)
                                      have n5_ := Aside0.mk (hbox)
                                      have n6_ := Aside0.mk ((by rw [hg]; exact (below_size (by repeat (first | (with_reducible first | exact HB.out | apply below_alloc | apply pw_below_drewN | apply below_drew1 | refine below_set ?_ GE170.out | refine below_set ?_ GE175.out) | exact HB.out))) : w.heap.size ≤ gb184))
                                      have n7_ := Aside0.mk ((by rw [hg]; exact (below_size (by repeat (first | (with_reducible first | exact HB.out | apply below_alloc | apply pw_below_drewN | apply below_drew1 | refine below_set ?_ GE170.out | refine below_set ?_ GE175.out) | exact HB.out))) : w.heap.size ≤ gb184))
                                      have n8_ := Aside0.mk ((by rw [hg]; exact Nat.ne_of_lt (blk_lt (g := gb170) (o := .cells #[.int .i64 a2_0, .int .i64 a2_1] 27 (0, 0)) (by (with_reducible repeat (first | refine blk_drewN ?_ _ | refine blk_drew ?_ | refine blk_alloc ?_ _)); exact BK170.out)) : gb170 ≠ gb184))
                                      have n9_ := Aside0.mk ((by rw [hg]; exact Nat.ne_of_gt (blk_lt (g := gb170) (o := .cells #[.int .i64 a2_0, .int .i64 a2_1] 27 (0, 0)) (by (with_reducible repeat (first | refine blk_drewN ?_ _ | refine blk_drew ?_ | refine blk_alloc ?_ _)); exact BK170.out)) : gb184 ≠ gb170))
                                      have n10_ := Aside0.mk ((by rw [hg]; exact Nat.ne_of_lt (blk_lt (g := gb175) (o := .cells #[.string ((rd_T38 t171 (ji6)).f0), .int .i64 ((rd_T38 t171 (ji6)).f1), .int .i64 ((rd_T38 t171 (ji6)).f2)] 38 (0, 0)) (by (with_reducible repeat (first | refine blk_drewN ?_ _ | refine blk_drew ?_ | refine blk_alloc ?_ _)); exact BK175.out)) : gb175 ≠ gb184))
                                      have n11_ := Aside0.mk ((by rw [hg]; exact Nat.ne_of_gt (blk_lt (g := gb175) (o := .cells #[.string ((rd_T38 t171 (ji6)).f0), .int .i64 ((rd_T38 t171 (ji6)).f1), .int .i64 ((rd_T38 t171 (ji6)).f2)] 38 (0, 0)) (by (with_reducible repeat (first | refine blk_drewN ?_ _ | refine blk_drew ?_ | refine blk_alloc ?_ _)); exact BK175.out)) : gb184 ≠ gb175))
                                      clear HO173
                                      clear HO178
                                      clear BK170
                                      clear BK175
                                      clear HB
                                      have HO173 := n0_
                                      have HO178 := n1_
                                      have BK170 := n2_
                                      have BK175 := n3_
                                      have HB := n4_
                                      have BK184 := n5_
                                      have GW184 := n6_
                                      have GE184 := n7_
                                      have NB170_184 := n8_
                                      have NB184_170 := n9_
                                      have NB175_184 := n10_
                                      have NB184_175 := n11_
                                      clear n0_ n1_ n2_ n3_ n4_ n5_ n6_ n7_ n8_ n9_ n10_ n11_
                                      clear hb hbox hg
                                      refine hK.out _ _ ⟨(blk_cell BK175.out 0).trans rfl, (blk_cell BK175.out 1).trans rfl, (blk_cell BK175.out 2).trans rfl, (blk_cell BK170.out 0).trans rfl, (blk_cell BK170.out 1).trans rfl⟩ (fun hHeld => ?_)
                                      clear hK K
                                      refine norm_ (a' := ?_) ?_ ?_
                                      rotate_left
                                      · show Act.put _ (some 10) _ = _
                                        simp only [Act.put, List.setIfInBounds_toArray, List.set_cons_zero, List.set_cons_succ, i64_w, i32_w]
                                        rfl
                                      exact norm_ (by first | (simp only [putAll, Act.put, List.setIfInBounds_toArray, List.set_cons_zero, List.set_cons_succ]; done) | (simp only [putAll, Act.put, List.setIfInBounds_toArray, List.set_cons_zero, List.set_cons_succ]; rfl)) (hJ5_7_12 (v177, gb184) _ ⟨hHeld, (by (with_reducible repeat (first | apply Kd.R_alloc | apply Kd.R_drewN | apply Kd.R_drew)); exact HO173.out), (by (with_reducible repeat (first | apply MR.R_alloc | apply MR.R_drewN | apply MR.R_drew)); exact HO178.out), (by (with_reducible repeat (first | refine blk_drewN ?_ _ | refine blk_drew ?_ | refine blk_alloc ?_ _)); exact BK170.out), (by (with_reducible repeat (first | refine blk_drewN ?_ _ | refine blk_drew ?_ | refine blk_alloc ?_ _)); exact BK175.out), (by (with_reducible repeat (first | refine blk_drewN ?_ _ | refine blk_drew ?_ | refine blk_alloc ?_ _)); exact BK184.out), GW184.out, GE184.out, NB170_184.out, NB184_170.out, NB175_184.out, NB184_175.out, (by repeat (first | (with_reducible first | exact HB.out | apply below_alloc | apply pw_below_drewN | apply below_drew1 | refine below_set ?_ GE170.out | refine below_set ?_ GE175.out | refine below_set ?_ GE184.out) | exact HB.out))⟩)
                                    · skip
                                      refine box_step ?hg (N := 12) ?hd (cs := #[.int .i64 0, .int .i64 0]) (t := 30) ?hr ?_; (case hd => rfl); (case hg => rfl); (case hr => first | (go_simp; done) | (go_simp; rfl))
                                      intro gb185 hg w34 hbox hb
                                      have n0_ := Aside0.mk (Kd.R_below (by (with_reducible repeat (first | apply Kd.R_alloc | apply Kd.R_drewN | apply Kd.R_drew)); exact HO173.out) hb)
                                      have n1_ := Aside0.mk (MR.R_below (by (with_reducible repeat (first | apply MR.R_alloc | apply MR.R_drewN | apply MR.R_drew)); exact HO178.out) hb)
                                      have n2_ := Aside0.mk (blk_below (g := gb170) (o := .cells #[.int .i64 a2_0, .int .i64 a2_1] 27 (0, 0)) (by (with_reducible repeat (first | refine blk_drewN ?_ _ | refine blk_drew ?_ | refine blk_alloc ?_ _)); exact BK170.out) hb)
                                      have n3_ := Aside0.mk (blk_below (g := gb175) (o := .cells #[.string ((rd_T38 t171 (ji6)).f0), .int .i64 ((rd_T38 t171 (ji6)).f1), .int .i64 ((rd_T38 t171 (ji6)).f2)] 38 (0, 0)) (by (with_reducible repeat (first | refine blk_drewN ?_ _ | refine blk_drew ?_ | refine blk_alloc ?_ _)); exact BK175.out) hb)
                                      have n4_ := Aside0.mk (below_step (by repeat (first | (with_reducible first | exact HB.out | apply below_alloc | apply pw_below_drewN | apply below_drew1 | refine below_set ?_ GE170.out | refine below_set ?_ GE175.out) | exact HB.out)) hb)
                                      have n5_ := Aside0.mk (hbox)
                                      have n6_ := Aside0.mk ((by rw [hg]; exact (below_size (by repeat (first | (with_reducible first | exact HB.out | apply below_alloc | apply pw_below_drewN | apply below_drew1 | refine below_set ?_ GE170.out | refine below_set ?_ GE175.out) | exact HB.out))) : w.heap.size ≤ gb185))
                                      have n7_ := Aside0.mk ((by rw [hg]; exact (below_size (by repeat (first | (with_reducible first | exact HB.out | apply below_alloc | apply pw_below_drewN | apply below_drew1 | refine below_set ?_ GE170.out | refine below_set ?_ GE175.out) | exact HB.out))) : w.heap.size ≤ gb185))
                                      have n8_ := Aside0.mk ((by rw [hg]; exact Nat.ne_of_lt (blk_lt (g := gb170) (o := .cells #[.int .i64 a2_0, .int .i64 a2_1] 27 (0, 0)) (by (with_reducible repeat (first | refine blk_drewN ?_ _ | refine blk_drew ?_ | refine blk_alloc ?_ _)); exact BK170.out)) : gb170 ≠ gb185))
                                      have n9_ := Aside0.mk ((by rw [hg]; exact Nat.ne_of_gt (blk_lt (g := gb170) (o := .cells #[.int .i64 a2_0, .int .i64 a2_1] 27 (0, 0)) (by (with_reducible repeat (first | refine blk_drewN ?_ _ | refine blk_drew ?_ | refine blk_alloc ?_ _)); exact BK170.out)) : gb185 ≠ gb170))
                                      have n10_ := Aside0.mk ((by rw [hg]; exact Nat.ne_of_lt (blk_lt (g := gb175) (o := .cells #[.string ((rd_T38 t171 (ji6)).f0), .int .i64 ((rd_T38 t171 (ji6)).f1), .int .i64 ((rd_T38 t171 (ji6)).f2)] 38 (0, 0)) (by (with_reducible repeat (first | refine blk_drewN ?_ _ | refine blk_drew ?_ | refine blk_alloc ?_ _)); exact BK175.out)) : gb175 ≠ gb185))
                                      have n11_ := Aside0.mk ((by rw [hg]; exact Nat.ne_of_gt (blk_lt (g := gb175) (o := .cells #[.string ((rd_T38 t171 (ji6)).f0), .int .i64 ((rd_T38 t171 (ji6)).f1), .int .i64 ((rd_T38 t171 (ji6)).f2)] 38 (0, 0)) (by (with_reducible repeat (first | refine blk_drewN ?_ _ | refine blk_drew ?_ | refine blk_alloc ?_ _)); exact BK175.out)) : gb185 ≠ gb175))
                                      clear HO173
                                      clear HO178
                                      clear BK170
                                      clear BK175
                                      clear HB
                                      have HO173 := n0_
                                      have HO178 := n1_
                                      have BK170 := n2_
                                      have BK175 := n3_
                                      have HB := n4_
                                      have BK185 := n5_
                                      have GW185 := n6_
                                      have GE185 := n7_
                                      have NB170_185 := n8_
                                      have NB185_170 := n9_
                                      have NB175_185 := n10_
                                      have NB185_175 := n11_
                                      clear n0_ n1_ n2_ n3_ n4_ n5_ n6_ n7_ n8_ n9_ n10_ n11_
                                      clear hb hbox hg
                                      refine hK.out _ _ ⟨(blk_cell BK175.out 0).trans rfl, (blk_cell BK175.out 1).trans rfl, (blk_cell BK175.out 2).trans rfl, (blk_cell BK170.out 0).trans rfl, (blk_cell BK170.out 1).trans rfl⟩ (fun hHeld => ?_)
                                      clear hK K
                                      refine norm_ (a' := ?_) ?_ ?_
                                      rotate_left
                                      · show Act.put _ (some 12) _ = _
                                        simp only [Act.put, List.setIfInBounds_toArray, List.set_cons_zero, List.set_cons_succ, i64_w, i32_w]
                                        rfl
                                      exact norm_ (by first | (simp only [putAll, Act.put, List.setIfInBounds_toArray, List.set_cons_zero, List.set_cons_succ]; done) | (simp only [putAll, Act.put, List.setIfInBounds_toArray, List.set_cons_zero, List.set_cons_succ]; rfl)) (hJ5_7_13 (v177, gb185) _ ⟨hHeld, (by (with_reducible repeat (first | apply Kd.R_alloc | apply Kd.R_drewN | apply Kd.R_drew)); exact HO173.out), (by (with_reducible repeat (first | apply MR.R_alloc | apply MR.R_drewN | apply MR.R_drew)); exact HO178.out), (by (with_reducible repeat (first | refine blk_drewN ?_ _ | refine blk_drew ?_ | refine blk_alloc ?_ _)); exact BK170.out), (by (with_reducible repeat (first | refine blk_drewN ?_ _ | refine blk_drew ?_ | refine blk_alloc ?_ _)); exact BK175.out), (by (with_reducible repeat (first | refine blk_drewN ?_ _ | refine blk_drew ?_ | refine blk_alloc ?_ _)); exact BK185.out), GW185.out, GE185.out, NB170_185.out, NB185_170.out, NB175_185.out, NB185_175.out, (by repeat (first | (with_reducible first | exact HB.out | apply below_alloc | apply pw_below_drewN | apply below_drew1 | refine below_set ?_ GE170.out | refine below_set ?_ GE175.out | refine below_set ?_ GE185.out) | exact HB.out))⟩)
                                · skip
                                  rintro ⟨v177, gb184, gb185⟩ w33 ⟨hS_, h0_, h1_, h2_, h3_, h4_, h5_, h6_, h7_, h8_, h9_, h10_, h11_, h12_, h13_, h14_, h15_, h16_, h17_, h18_, h19_, h20_⟩
                                  have n0_ : Aside0 (Kd.R k38 38 w33 w.heap.size (fun k_ => k_ ≠ gb175) (.slice (some ad174) t171.length co23) t171) := ⟨h0_⟩
                                  have n1_ : Aside0 (MR 5 w33 w.heap.size (fun _ => True) v177 y176) := ⟨h1_⟩
                                  have n2_ : Aside0 (w33.heap[gb170]? = some (.cells #[.int .i64 a2_0, .int .i64 a2_1] 27 (0, 0))) := ⟨h2_⟩
                                  have n3_ : Aside0 (w33.heap[gb175]? = some (.cells #[.string ((rd_T38 t171 (ji6)).f0), .int .i64 ((rd_T38 t171 (ji6)).f1), .int .i64 ((rd_T38 t171 (ji6)).f2)] 38 (0, 0))) := ⟨h3_⟩
                                  have n4_ : Aside0 (w33.heap[gb184]? = some (.cells #[.int .i64 0, .int .i64 0] 27 (0, 0))) := ⟨h4_⟩
                                  have n5_ : Aside0 (w33.heap[gb185]? = some (.cells #[.int .i64 0, .int .i64 0] 30 (0, 0))) := ⟨h5_⟩
                                  have n6_ : Aside0 (w.heap.size ≤ gb184) := ⟨h6_⟩
                                  have n7_ : Aside0 (w.heap.size ≤ gb184) := ⟨h7_⟩
                                  have n8_ : Aside0 (gb170 ≠ gb184) := ⟨h8_⟩
                                  have n9_ : Aside0 (gb184 ≠ gb170) := ⟨h9_⟩
                                  have n10_ : Aside0 (gb175 ≠ gb184) := ⟨h10_⟩
                                  have n11_ : Aside0 (gb184 ≠ gb175) := ⟨h11_⟩
                                  have n12_ : Aside0 (gb185 ≠ gb184) := ⟨h12_⟩
                                  have n13_ : Aside0 (gb184 ≠ gb185) := ⟨h13_⟩
                                  have n14_ : Aside0 (w.heap.size ≤ gb185) := ⟨h14_⟩
                                  have n15_ : Aside0 (w.heap.size ≤ gb185) := ⟨h15_⟩
                                  have n16_ : Aside0 (gb170 ≠ gb185) := ⟨h16_⟩
                                  have n17_ : Aside0 (gb185 ≠ gb170) := ⟨h17_⟩
                                  have n18_ : Aside0 (gb175 ≠ gb185) := ⟨h18_⟩
                                  have n19_ : Aside0 (gb185 ≠ gb175) := ⟨h19_⟩
                                  have n20_ : Aside0 (Below w.heap.size w w33) := ⟨h20_⟩
                                  clear HO173
                                  clear BK170
                                  clear BK175
                                  clear HB
                                  clear h0_ h1_ h2_ h3_ h4_ h5_ h6_ h7_ h8_ h9_ h10_ h11_ h12_ h13_ h14_ h15_ h16_ h17_ h18_ h19_ h20_
                                  have HO173 := n0_
                                  have HO178 := n1_
                                  have BK170 := n2_
                                  have BK175 := n3_
                                  have BK184 := n4_
                                  have BK185 := n5_
                                  have GW184 := n6_
                                  have GE184 := n7_
                                  have NB170_184 := n8_
                                  have NB184_170 := n9_
                                  have NB175_184 := n10_
                                  have NB184_175 := n11_
                                  have NB185_184 := n12_
                                  have NB184_185 := n13_
                                  have GW185 := n14_
                                  have GE185 := n15_
                                  have NB170_185 := n16_
                                  have NB185_170 := n17_
                                  have NB175_185 := n18_
                                  have NB185_175 := n19_
                                  have HB := n20_
                                  clear n0_ n1_ n2_ n3_ n4_ n5_ n6_ n7_ n8_ n9_ n10_ n11_ n12_ n13_ n14_ n15_ n16_ n17_ n18_ n19_ n20_
                                  have hHeld : w33.cell? ⟨gb175, 0, none⟩ = some (.string ((rd_T38 t171 (ji6)).f0)) ∧ w33.cell? ⟨gb175, 1, none⟩ = some (.int .i64 ((rd_T38 t171 (ji6)).f1)) ∧ w33.cell? ⟨gb175, 2, none⟩ = some (.int .i64 ((rd_T38 t171 (ji6)).f2)) ∧ w33.cell? ⟨gb170, 0, none⟩ = some (.int .i64 a2_0) ∧ w33.cell? ⟨gb170, 1, none⟩ = some (.int .i64 a2_1) := hS_
                                  obtain ⟨Ao34, co34, eo34⟩ := MR.R_slice HO178.out
                                  (first | subst eo34 | (injection eo34 with f1_ f2_ f3_; have f4_ := f1_.symm; have f5_ := f3_.symm; clear f1_ f2_ f3_; subst f4_; subst f5_))
                                  refine norm_ (a' := ?_) ?_ ?_
                                  rotate_left
                                  · simp only [putAll, Act.put, List.setIfInBounds_toArray, List.set_cons_zero, List.set_cons_succ]
                                    rfl
                                  refine one_ (i := 7) (N := some 42) #[true, true, true, true, true, true, true, true, false, false, false, false, true, true, false, false, false] rfl rfl (one_of HT_.out (by kernel_rfl)) (by decide) (fun K hK => ?_)
                                  refine goes_ Try.func23 (by kernel_rfl) rfl #[.slice Ao34 y176.length co34, .int .i64 1, .agg #[.int .i64 a2_0, .int .i64 a2_1]] (by rfl) rfl rfl (by (try simp only [List.map_toArray, List.map_cons, List.map_nil]); first | done | rfl | (simp only [List.length_drop, List.length_take]; rfl)) ?_
                                  with_reducible refine (escape_Next.calls k _ _ y176 1 a2_0 a2_1 t179 t180 t181 t182 t183 _ ?side1 ?side2 A14.out).mono ?_
                                  (case side1 => repeat (first | exact (MR.R_reads' HO178.out).2.2 | (with_reducible refine Kd.C_alloc ?_ _) | (with_reducible refine Kd.C_drewN ?_ _) | (with_reducible refine Kd.C_drew ?_)))
                                  (case side2 => exact (MR.R_reads' HO178.out).2.1)
                                  rintro e w35 ⟨rfl, hb⟩
                                  refine ⟨_, rfl, ?_⟩
                                  have n0_ := Aside0.mk (Kd.R_below (by (with_reducible repeat (first | apply Kd.R_alloc | apply Kd.R_drewN | apply Kd.R_drew)); exact HO173.out) hb)
                                  have n1_ := Aside0.mk (MR.R_below (by (with_reducible repeat (first | apply MR.R_alloc | apply MR.R_drewN | apply MR.R_drew)); exact HO178.out) hb)
                                  have n2_ := Aside0.mk (blk_below (g := gb170) (o := .cells #[.int .i64 a2_0, .int .i64 a2_1] 27 (0, 0)) (by (with_reducible repeat (first | refine blk_drewN ?_ _ | refine blk_drew ?_ | refine blk_alloc ?_ _)); exact BK170.out) hb)
                                  have n3_ := Aside0.mk (blk_below (g := gb175) (o := .cells #[.string ((rd_T38 t171 (ji6)).f0), .int .i64 ((rd_T38 t171 (ji6)).f1), .int .i64 ((rd_T38 t171 (ji6)).f2)] 38 (0, 0)) (by (with_reducible repeat (first | refine blk_drewN ?_ _ | refine blk_drew ?_ | refine blk_alloc ?_ _)); exact BK175.out) hb)
                                  have n4_ := Aside0.mk (blk_below (g := gb184) (o := .cells #[.int .i64 0, .int .i64 0] 27 (0, 0)) (by (with_reducible repeat (first | refine blk_drewN ?_ _ | refine blk_drew ?_ | refine blk_alloc ?_ _)); exact BK184.out) hb)
                                  have n5_ := Aside0.mk (blk_below (g := gb185) (o := .cells #[.int .i64 0, .int .i64 0] 30 (0, 0)) (by (with_reducible repeat (first | refine blk_drewN ?_ _ | refine blk_drew ?_ | refine blk_alloc ?_ _)); exact BK185.out) hb)
                                  have n6_ := Aside0.mk (below_step (by repeat (first | (with_reducible first | exact HB.out | apply below_alloc | apply pw_below_drewN | apply below_drew1 | refine below_set ?_ GE170.out | refine below_set ?_ GE175.out | refine below_set ?_ GE184.out | refine below_set ?_ GE185.out) | exact HB.out)) hb)
                                  clear HO173
                                  clear HO178
                                  clear BK170
                                  clear BK175
                                  clear BK184
                                  clear BK185
                                  clear HB
                                  have HO173 := n0_
                                  have HO178 := n1_
                                  have BK170 := n2_
                                  have BK175 := n3_
                                  have BK184 := n4_
                                  have BK185 := n5_
                                  have HB := n6_
                                  clear n0_ n1_ n2_ n3_ n4_ n5_ n6_
                                  (try clear hb)
                                  (try clear hb2)
                                  (try clear hk)
                                  (try clear hi)
                                  refine hK.out _ _ ⟨(blk_cell BK175.out 0).trans rfl, (blk_cell BK175.out 1).trans rfl, (blk_cell BK175.out 2).trans rfl, (blk_cell BK170.out 0).trans rfl, (blk_cell BK170.out 1).trans rfl⟩ (fun hHeld => ?_)
                                  clear hK K
                                  refine norm_ (a' := ?_) ?_ ?_
                                  rotate_left
                                  · show Act.put _ (some 42) _ = _
                                    simp only [Act.put, List.setIfInBounds_toArray, List.set_cons_zero, List.set_cons_succ, i64_w, i32_w]
                                    rfl
                                  refine pure_ (i := 8) (N := some 34) (v := ?_) (a' := ?_) #[true, true, true, true, true, true, true, true, true, false, false, false, true, true, false, false, false] rfl rfl (any_of HT_.out (by kernel_rfl)) (fun _ _ _ h => h) (Or.inl ⟨by rfl, ?_⟩) ?_ ?_
                                  rotate_left
                                  · intro w'
                                    go_simp
                                    with_reducible rfl
                                  rotate_left
                                  · simp only [Act.put, List.setIfInBounds_toArray, List.set_cons_zero, List.set_cons_succ, i64_w, i32_w]
                                    rfl
                                  refine pure_ (i := 9) (N := some 43) (v := ?_) (a' := ?_) #[true, true, true, true, true, true, true, true, true, true, false, false, true, true, false, false, false] rfl rfl (any_of HT_.out (by kernel_rfl)) (fun _ _ _ h => h) (Or.inl ⟨by rfl, ?_⟩) ?_ ?_
                                  rotate_left
                                  · intro w'
                                    go_simp
                                    with_reducible rfl
                                  rotate_left
                                  · simp only [Act.put, List.setIfInBounds_toArray, List.set_cons_zero, List.set_cons_succ, i64_w, i32_w]
                                    rfl
                                  refine pure_ (i := 10) (N := some 44) (v := ?_) (a' := ?_) #[true, true, true, true, true, true, true, true, true, true, true, false, true, true, false, false, false] rfl rfl (any_of HT_.out (by kernel_rfl)) (fun _ _ _ h => h) (Or.inl ⟨by rfl, ?_⟩) ?_ ?_
                                  rotate_left
                                  · intro w'
                                    go_simp
                                    with_reducible rfl
                                  rotate_left
                                  · simp only [Act.put, List.setIfInBounds_toArray, List.set_cons_zero, List.set_cons_succ, i64_w, i32_w]
                                    rfl
                                  refine pure_ (i := 11) (N := some 45) (v := ?_) (a' := ?_) #[true, true, true, true, true, true, true, true, true, true, true, true, true, true, false, false, false] rfl rfl (any_of HT_.out (by kernel_rfl)) (fun _ _ _ h => h) (Or.inl ⟨by rfl, ?_⟩) ?_ ?_
                                  rotate_left
                                  · intro w'
                                    go_simp
                                    with_reducible rfl
                                  rotate_left
                                  · simp only [Act.put, List.setIfInBounds_toArray, List.set_cons_zero, List.set_cons_succ, i64_w, i32_w]
                                    rfl
                                  exact norm_ (by first | (simp only [putAll, Act.put, List.setIfInBounds_toArray, List.set_cons_zero, List.set_cons_succ]; done) | (simp only [putAll, Act.put, List.setIfInBounds_toArray, List.set_cons_zero, List.set_cons_succ]; rfl)) (hJ5_7_12_13 (.slice Ao34 y176.length co34, gb184, gb185) _ ⟨hHeld, (by (with_reducible repeat (first | apply Kd.R_alloc | apply Kd.R_drewN | apply Kd.R_drew)); exact HO173.out), (by (with_reducible repeat (first | apply MR.R_alloc | apply MR.R_drewN | apply MR.R_drew)); exact HO178.out), (by (with_reducible repeat (first | refine blk_drewN ?_ _ | refine blk_drew ?_ | refine blk_alloc ?_ _)); exact BK170.out), (by (with_reducible repeat (first | refine blk_drewN ?_ _ | refine blk_drew ?_ | refine blk_alloc ?_ _)); exact BK175.out), (by (with_reducible repeat (first | refine blk_drewN ?_ _ | refine blk_drew ?_ | refine blk_alloc ?_ _)); exact BK184.out), (by (with_reducible repeat (first | refine blk_drewN ?_ _ | refine blk_drew ?_ | refine blk_alloc ?_ _)); exact BK185.out), GW184.out, GE184.out, NB170_184.out, NB184_170.out, NB175_184.out, NB184_175.out, NB185_184.out, NB184_185.out, GW185.out, GE185.out, NB170_185.out, NB185_170.out, NB175_185.out, NB185_175.out, (by repeat (first | (with_reducible first | exact HB.out | apply below_alloc | apply pw_below_drewN | apply below_drew1 | refine below_set ?_ GE170.out | refine below_set ?_ GE175.out | refine below_set ?_ GE184.out | refine below_set ?_ GE185.out) | exact HB.out))⟩)
                              · skip
                                rintro ⟨v177, gb185⟩ w34 ⟨hS_, h0_, h1_, h2_, h3_, h4_, h5_, h6_, h7_, h8_, h9_, h10_, h11_⟩
                                have n0_ : Aside0 (Kd.R k38 38 w34 w.heap.size (fun k_ => k_ ≠ gb175) (.slice (some ad174) t171.length co23) t171) := ⟨h0_⟩
                                have n1_ : Aside0 (MR 5 w34 w.heap.size (fun _ => True) v177 y176) := ⟨h1_⟩
                                have n2_ : Aside0 (w34.heap[gb170]? = some (.cells #[.int .i64 a2_0, .int .i64 a2_1] 27 (0, 0))) := ⟨h2_⟩
                                have n3_ : Aside0 (w34.heap[gb175]? = some (.cells #[.string ((rd_T38 t171 (ji6)).f0), .int .i64 ((rd_T38 t171 (ji6)).f1), .int .i64 ((rd_T38 t171 (ji6)).f2)] 38 (0, 0))) := ⟨h3_⟩
                                have n4_ : Aside0 (w34.heap[gb185]? = some (.cells #[.int .i64 0, .int .i64 0] 30 (0, 0))) := ⟨h4_⟩
                                have n5_ : Aside0 (w.heap.size ≤ gb185) := ⟨h5_⟩
                                have n6_ : Aside0 (w.heap.size ≤ gb185) := ⟨h6_⟩
                                have n7_ : Aside0 (gb170 ≠ gb185) := ⟨h7_⟩
                                have n8_ : Aside0 (gb185 ≠ gb170) := ⟨h8_⟩
                                have n9_ : Aside0 (gb175 ≠ gb185) := ⟨h9_⟩
                                have n10_ : Aside0 (gb185 ≠ gb175) := ⟨h10_⟩
                                have n11_ : Aside0 (Below w.heap.size w w34) := ⟨h11_⟩
                                clear HO173
                                clear BK170
                                clear BK175
                                clear HB
                                clear h0_ h1_ h2_ h3_ h4_ h5_ h6_ h7_ h8_ h9_ h10_ h11_
                                have HO173 := n0_
                                have HO178 := n1_
                                have BK170 := n2_
                                have BK175 := n3_
                                have BK185 := n4_
                                have GW185 := n5_
                                have GE185 := n6_
                                have NB170_185 := n7_
                                have NB185_170 := n8_
                                have NB175_185 := n9_
                                have NB185_175 := n10_
                                have HB := n11_
                                clear n0_ n1_ n2_ n3_ n4_ n5_ n6_ n7_ n8_ n9_ n10_ n11_
                                have hHeld : w34.cell? ⟨gb175, 0, none⟩ = some (.string ((rd_T38 t171 (ji6)).f0)) ∧ w34.cell? ⟨gb175, 1, none⟩ = some (.int .i64 ((rd_T38 t171 (ji6)).f1)) ∧ w34.cell? ⟨gb175, 2, none⟩ = some (.int .i64 ((rd_T38 t171 (ji6)).f2)) ∧ w34.cell? ⟨gb170, 0, none⟩ = some (.int .i64 a2_0) ∧ w34.cell? ⟨gb170, 1, none⟩ = some (.int .i64 a2_1) := hS_
                                refine norm_ (a' := ?_) ?_ ?_
                                rotate_left
                                · simp only [putAll, Act.put, List.setIfInBounds_toArray, List.set_cons_zero, List.set_cons_succ]
                                  rfl
                                refine one_ (i := 12) (N := some 10) #[true, true, true, true, true, true, true, true, true, true, true, true, true, true, false, false, false] rfl rfl (one_of HT_.out (by kernel_rfl)) (by decide) (fun K hK => ?_)
                                refine box_step ?hg (N := 10) ?hd (cs := #[.int .i64 0, .int .i64 0]) (t := 27) ?hr ?_; (case hd => rfl); (case hg => rfl); (case hr => first | (go_simp; done) | (go_simp; rfl))
                                intro gb184 hg w35 hbox hb
                                have n0_ := Aside0.mk (Kd.R_below (by (with_reducible repeat (first | apply Kd.R_alloc | apply Kd.R_drewN | apply Kd.R_drew)); exact HO173.out) hb)
                                have n1_ := Aside0.mk (MR.R_below (by (with_reducible repeat (first | apply MR.R_alloc | apply MR.R_drewN | apply MR.R_drew)); exact HO178.out) hb)
                                have n2_ := Aside0.mk (blk_below (g := gb170) (o := .cells #[.int .i64 a2_0, .int .i64 a2_1] 27 (0, 0)) (by (with_reducible repeat (first | refine blk_drewN ?_ _ | refine blk_drew ?_ | refine blk_alloc ?_ _)); exact BK170.out) hb)
                                have n3_ := Aside0.mk (blk_below (g := gb175) (o := .cells #[.string ((rd_T38 t171 (ji6)).f0), .int .i64 ((rd_T38 t171 (ji6)).f1), .int .i64 ((rd_T38 t171 (ji6)).f2)] 38 (0, 0)) (by (with_reducible repeat (first | refine blk_drewN ?_ _ | refine blk_drew ?_ | refine blk_alloc ?_ _)); exact BK175.out) hb)
                                have n4_ := Aside0.mk (blk_below (g := gb185) (o := .cells #[.int .i64 0, .int .i64 0] 30 (0, 0)) (by (with_reducible repeat (first | refine blk_drewN ?_ _ | refine blk_drew ?_ | refine blk_alloc ?_ _)); exact BK185.out) hb)
                                have n5_ := Aside0.mk (below_step (by repeat (first | (with_reducible first | exact HB.out | apply below_alloc | apply pw_below_drewN | apply below_drew1 | refine below_set ?_ GE170.out | refine below_set ?_ GE175.out | refine below_set ?_ GE185.out) | exact HB.out)) hb)
                                have n6_ := Aside0.mk (hbox)
                                have n7_ := Aside0.mk ((by rw [hg]; exact (below_size (by repeat (first | (with_reducible first | exact HB.out | apply below_alloc | apply pw_below_drewN | apply below_drew1 | refine below_set ?_ GE170.out | refine below_set ?_ GE175.out | refine below_set ?_ GE185.out) | exact HB.out))) : w.heap.size ≤ gb184))
                                have n8_ := Aside0.mk ((by rw [hg]; exact (below_size (by repeat (first | (with_reducible first | exact HB.out | apply below_alloc | apply pw_below_drewN | apply below_drew1 | refine below_set ?_ GE170.out | refine below_set ?_ GE175.out | refine below_set ?_ GE185.out) | exact HB.out))) : w.heap.size ≤ gb184))
                                have n9_ := Aside0.mk ((by rw [hg]; exact Nat.ne_of_lt (blk_lt (g := gb170) (o := .cells #[.int .i64 a2_0, .int .i64 a2_1] 27 (0, 0)) (by (with_reducible repeat (first | refine blk_drewN ?_ _ | refine blk_drew ?_ | refine blk_alloc ?_ _)); exact BK170.out)) : gb170 ≠ gb184))
                                have n10_ := Aside0.mk ((by rw [hg]; exact Nat.ne_of_gt (blk_lt (g := gb170) (o := .cells #[.int .i64 a2_0, .int .i64 a2_1] 27 (0, 0)) (by (with_reducible repeat (first | refine blk_drewN ?_ _ | refine blk_drew ?_ | refine blk_alloc ?_ _)); exact BK170.out)) : gb184 ≠ gb170))
                                have n11_ := Aside0.mk ((by rw [hg]; exact Nat.ne_of_lt (blk_lt (g := gb175) (o := .cells #[.string ((rd_T38 t171 (ji6)).f0), .int .i64 ((rd_T38 t171 (ji6)).f1), .int .i64 ((rd_T38 t171 (ji6)).f2)] 38 (0, 0)) (by (with_reducible repeat (first | refine blk_drewN ?_ _ | refine blk_drew ?_ | refine blk_alloc ?_ _)); exact BK175.out)) : gb175 ≠ gb184))
                                have n12_ := Aside0.mk ((by rw [hg]; exact Nat.ne_of_gt (blk_lt (g := gb175) (o := .cells #[.string ((rd_T38 t171 (ji6)).f0), .int .i64 ((rd_T38 t171 (ji6)).f1), .int .i64 ((rd_T38 t171 (ji6)).f2)] 38 (0, 0)) (by (with_reducible repeat (first | refine blk_drewN ?_ _ | refine blk_drew ?_ | refine blk_alloc ?_ _)); exact BK175.out)) : gb184 ≠ gb175))
                                have n13_ := Aside0.mk ((by rw [hg]; exact Nat.ne_of_lt (blk_lt (g := gb185) (o := .cells #[.int .i64 0, .int .i64 0] 30 (0, 0)) (by (with_reducible repeat (first | refine blk_drewN ?_ _ | refine blk_drew ?_ | refine blk_alloc ?_ _)); exact BK185.out)) : gb185 ≠ gb184))
                                have n14_ := Aside0.mk ((by rw [hg]; exact Nat.ne_of_gt (blk_lt (g := gb185) (o := .cells #[.int .i64 0, .int .i64 0] 30 (0, 0)) (by (with_reducible repeat (first | refine blk_drewN ?_ _ | refine blk_drew ?_ | refine blk_alloc ?_ _)); exact BK185.out)) : gb184 ≠ gb185))
                                clear HO173
                                clear HO178
                                clear BK170
                                clear BK175
                                clear BK185
                                clear HB
                                have HO173 := n0_
                                have HO178 := n1_
                                have BK170 := n2_
                                have BK175 := n3_
                                have BK185 := n4_
                                have HB := n5_
                                have BK184 := n6_
                                have GW184 := n7_
                                have GE184 := n8_
                                have NB170_184 := n9_
                                have NB184_170 := n10_
                                have NB175_184 := n11_
                                have NB184_175 := n12_
                                have NB185_184 := n13_
                                have NB184_185 := n14_
                                clear n0_ n1_ n2_ n3_ n4_ n5_ n6_ n7_ n8_ n9_ n10_ n11_ n12_ n13_ n14_
                                clear hb hbox hg
                                refine hK.out _ _ ⟨(blk_cell BK175.out 0).trans rfl, (blk_cell BK175.out 1).trans rfl, (blk_cell BK175.out 2).trans rfl, (blk_cell BK170.out 0).trans rfl, (blk_cell BK170.out 1).trans rfl⟩ (fun hHeld => ?_)
                                clear hK K
                                refine norm_ (a' := ?_) ?_ ?_
                                rotate_left
                                · show Act.put _ (some 10) _ = _
                                  simp only [Act.put, List.setIfInBounds_toArray, List.set_cons_zero, List.set_cons_succ, i64_w, i32_w]
                                  rfl
                                exact norm_ (by first | (simp only [putAll, Act.put, List.setIfInBounds_toArray, List.set_cons_zero, List.set_cons_succ]; done) | (simp only [putAll, Act.put, List.setIfInBounds_toArray, List.set_cons_zero, List.set_cons_succ]; rfl)) (hJ5_7_12_13 (v177, gb184, gb185) _ ⟨hHeld, (by (with_reducible repeat (first | apply Kd.R_alloc | apply Kd.R_drewN | apply Kd.R_drew)); exact HO173.out), (by (with_reducible repeat (first | apply MR.R_alloc | apply MR.R_drewN | apply MR.R_drew)); exact HO178.out), (by (with_reducible repeat (first | refine blk_drewN ?_ _ | refine blk_drew ?_ | refine blk_alloc ?_ _)); exact BK170.out), (by (with_reducible repeat (first | refine blk_drewN ?_ _ | refine blk_drew ?_ | refine blk_alloc ?_ _)); exact BK175.out), (by (with_reducible repeat (first | refine blk_drewN ?_ _ | refine blk_drew ?_ | refine blk_alloc ?_ _)); exact BK184.out), (by (with_reducible repeat (first | refine blk_drewN ?_ _ | refine blk_drew ?_ | refine blk_alloc ?_ _)); exact BK185.out), GW184.out, GE184.out, NB170_184.out, NB184_170.out, NB175_184.out, NB184_175.out, NB185_184.out, NB184_185.out, GW185.out, GE185.out, NB170_185.out, NB185_170.out, NB175_185.out, NB185_175.out, (by repeat (first | (with_reducible first | exact HB.out | apply below_alloc | apply pw_below_drewN | apply below_drew1 | refine below_set ?_ GE170.out | refine below_set ?_ GE175.out | refine below_set ?_ GE185.out | refine below_set ?_ GE184.out) | exact HB.out))⟩)
                            · skip
                              rintro ⟨v177, gb184⟩ w34 ⟨hS_, h0_, h1_, h2_, h3_, h4_, h5_, h6_, h7_, h8_, h9_, h10_, h11_⟩
                              have n0_ : Aside0 (Kd.R k38 38 w34 w.heap.size (fun k_ => k_ ≠ gb175) (.slice (some ad174) t171.length co23) t171) := ⟨h0_⟩
                              have n1_ : Aside0 (MR 5 w34 w.heap.size (fun _ => True) v177 y176) := ⟨h1_⟩
                              have n2_ : Aside0 (w34.heap[gb170]? = some (.cells #[.int .i64 a2_0, .int .i64 a2_1] 27 (0, 0))) := ⟨h2_⟩
                              have n3_ : Aside0 (w34.heap[gb175]? = some (.cells #[.string ((rd_T38 t171 (ji6)).f0), .int .i64 ((rd_T38 t171 (ji6)).f1), .int .i64 ((rd_T38 t171 (ji6)).f2)] 38 (0, 0))) := ⟨h3_⟩
                              have n4_ : Aside0 (w34.heap[gb184]? = some (.cells #[.int .i64 0, .int .i64 0] 27 (0, 0))) := ⟨h4_⟩
                              have n5_ : Aside0 (w.heap.size ≤ gb184) := ⟨h5_⟩
                              have n6_ : Aside0 (w.heap.size ≤ gb184) := ⟨h6_⟩
                              have n7_ : Aside0 (gb170 ≠ gb184) := ⟨h7_⟩
                              have n8_ : Aside0 (gb184 ≠ gb170) := ⟨h8_⟩
                              have n9_ : Aside0 (gb175 ≠ gb184) := ⟨h9_⟩
                              have n10_ : Aside0 (gb184 ≠ gb175) := ⟨h10_⟩
                              have n11_ : Aside0 (Below w.heap.size w w34) := ⟨h11_⟩
                              clear HO173
                              clear BK170
                              clear BK175
                              clear HB
                              clear h0_ h1_ h2_ h3_ h4_ h5_ h6_ h7_ h8_ h9_ h10_ h11_
                              have HO173 := n0_
                              have HO178 := n1_
                              have BK170 := n2_
                              have BK175 := n3_
                              have BK184 := n4_
                              have GW184 := n5_
                              have GE184 := n6_
                              have NB170_184 := n7_
                              have NB184_170 := n8_
                              have NB175_184 := n9_
                              have NB184_175 := n10_
                              have HB := n11_
                              clear n0_ n1_ n2_ n3_ n4_ n5_ n6_ n7_ n8_ n9_ n10_ n11_
                              have hHeld : w34.cell? ⟨gb175, 0, none⟩ = some (.string ((rd_T38 t171 (ji6)).f0)) ∧ w34.cell? ⟨gb175, 1, none⟩ = some (.int .i64 ((rd_T38 t171 (ji6)).f1)) ∧ w34.cell? ⟨gb175, 2, none⟩ = some (.int .i64 ((rd_T38 t171 (ji6)).f2)) ∧ w34.cell? ⟨gb170, 0, none⟩ = some (.int .i64 a2_0) ∧ w34.cell? ⟨gb170, 1, none⟩ = some (.int .i64 a2_1) := hS_
                              refine norm_ (a' := ?_) ?_ ?_
                              rotate_left
                              · simp only [putAll, Act.put, List.setIfInBounds_toArray, List.set_cons_zero, List.set_cons_succ]
                                rfl
                              refine one_ (i := 13) (N := some 12) #[true, true, true, true, true, true, true, true, true, true, true, true, true, true, false, false, false] rfl rfl (one_of HT_.out (by kernel_rfl)) (by decide) (fun K hK => ?_)
                              refine box_step ?hg (N := 12) ?hd (cs := #[.int .i64 0, .int .i64 0]) (t := 30) ?hr ?_; (case hd => rfl); (case hg => rfl); (case hr => first | (go_simp; done) | (go_simp; rfl))
                              intro gb185 hg w35 hbox hb
                              have n0_ := Aside0.mk (Kd.R_below (by (with_reducible repeat (first | apply Kd.R_alloc | apply Kd.R_drewN | apply Kd.R_drew)); exact HO173.out) hb)
                              have n1_ := Aside0.mk (MR.R_below (by (with_reducible repeat (first | apply MR.R_alloc | apply MR.R_drewN | apply MR.R_drew)); exact HO178.out) hb)
                              have n2_ := Aside0.mk (blk_below (g := gb170) (o := .cells #[.int .i64 a2_0, .int .i64 a2_1] 27 (0, 0)) (by (with_reducible repeat (first | refine blk_drewN ?_ _ | refine blk_drew ?_ | refine blk_alloc ?_ _)); exact BK170.out) hb)
                              have n3_ := Aside0.mk (blk_below (g := gb175) (o := .cells #[.string ((rd_T38 t171 (ji6)).f0), .int .i64 ((rd_T38 t171 (ji6)).f1), .int .i64 ((rd_T38 t171 (ji6)).f2)] 38 (0, 0)) (by (with_reducible repeat (first | refine blk_drewN ?_ _ | refine blk_drew ?_ | refine blk_alloc ?_ _)); exact BK175.out) hb)
                              have n4_ := Aside0.mk (blk_below (g := gb184) (o := .cells #[.int .i64 0, .int .i64 0] 27 (0, 0)) (by (with_reducible repeat (first | refine blk_drewN ?_ _ | refine blk_drew ?_ | refine blk_alloc ?_ _)); exact BK184.out) hb)
                              have n5_ := Aside0.mk (below_step (by repeat (first | (with_reducible first | exact HB.out | apply below_alloc | apply pw_below_drewN | apply below_drew1 | refine below_set ?_ GE170.out | refine below_set ?_ GE175.out | refine below_set ?_ GE184.out) | exact HB.out)) hb)
                              have n6_ := Aside0.mk (hbox)
                              have n7_ := Aside0.mk ((by rw [hg]; exact (below_size (by repeat (first | (with_reducible first | exact HB.out | apply below_alloc | apply pw_below_drewN | apply below_drew1 | refine below_set ?_ GE170.out | refine below_set ?_ GE175.out | refine below_set ?_ GE184.out) | exact HB.out))) : w.heap.size ≤ gb185))
                              have n8_ := Aside0.mk ((by rw [hg]; exact (below_size (by repeat (first | (with_reducible first | exact HB.out | apply below_alloc | apply pw_below_drewN | apply below_drew1 | refine below_set ?_ GE170.out | refine below_set ?_ GE175.out | refine below_set ?_ GE184.out) | exact HB.out))) : w.heap.size ≤ gb185))
                              have n9_ := Aside0.mk ((by rw [hg]; exact Nat.ne_of_lt (blk_lt (g := gb170) (o := .cells #[.int .i64 a2_0, .int .i64 a2_1] 27 (0, 0)) (by (with_reducible repeat (first | refine blk_drewN ?_ _ | refine blk_drew ?_ | refine blk_alloc ?_ _)); exact BK170.out)) : gb170 ≠ gb185))
                              have n10_ := Aside0.mk ((by rw [hg]; exact Nat.ne_of_gt (blk_lt (g := gb170) (o := .cells #[.int .i64 a2_0, .int .i64 a2_1] 27 (0, 0)) (by (with_reducible repeat (first | refine blk_drewN ?_ _ | refine blk_drew ?_ | refine blk_alloc ?_ _)); exact BK170.out)) : gb185 ≠ gb170))
                              have n11_ := Aside0.mk ((by rw [hg]; exact Nat.ne_of_lt (blk_lt (g := gb175) (o := .cells #[.string ((rd_T38 t171 (ji6)).f0), .int .i64 ((rd_T38 t171 (ji6)).f1), .int .i64 ((rd_T38 t171 (ji6)).f2)] 38 (0, 0)) (by (with_reducible repeat (first | refine blk_drewN ?_ _ | refine blk_drew ?_ | refine blk_alloc ?_ _)); exact BK175.out)) : gb175 ≠ gb185))
                              have n12_ := Aside0.mk ((by rw [hg]; exact Nat.ne_of_gt (blk_lt (g := gb175) (o := .cells #[.string ((rd_T38 t171 (ji6)).f0), .int .i64 ((rd_T38 t171 (ji6)).f1), .int .i64 ((rd_T38 t171 (ji6)).f2)] 38 (0, 0)) (by (with_reducible repeat (first | refine blk_drewN ?_ _ | refine blk_drew ?_ | refine blk_alloc ?_ _)); exact BK175.out)) : gb185 ≠ gb175))
                              have n13_ := Aside0.mk ((by rw [hg]; exact Nat.ne_of_lt (blk_lt (g := gb184) (o := .cells #[.int .i64 0, .int .i64 0] 27 (0, 0)) (by (with_reducible repeat (first | refine blk_drewN ?_ _ | refine blk_drew ?_ | refine blk_alloc ?_ _)); exact BK184.out)) : gb184 ≠ gb185))
                              have n14_ := Aside0.mk ((by rw [hg]; exact Nat.ne_of_gt (blk_lt (g := gb184) (o := .cells #[.int .i64 0, .int .i64 0] 27 (0, 0)) (by (with_reducible repeat (first | refine blk_drewN ?_ _ | refine blk_drew ?_ | refine blk_alloc ?_ _)); exact BK184.out)) : gb185 ≠ gb184))
                              clear HO173
                              clear HO178
                              clear BK170
                              clear BK175
                              clear BK184
                              clear HB
                              have HO173 := n0_
                              have HO178 := n1_
                              have BK170 := n2_
                              have BK175 := n3_
                              have BK184 := n4_
                              have HB := n5_
                              have BK185 := n6_
                              have GW185 := n7_
                              have GE185 := n8_
                              have NB170_185 := n9_
                              have NB185_170 := n10_
                              have NB175_185 := n11_
                              have NB185_175 := n12_
                              have NB184_185 := n13_
                              have NB185_184 := n14_
                              clear n0_ n1_ n2_ n3_ n4_ n5_ n6_ n7_ n8_ n9_ n10_ n11_ n12_ n13_ n14_
                              clear hb hbox hg
                              refine hK.out _ _ ⟨(blk_cell BK175.out 0).trans rfl, (blk_cell BK175.out 1).trans rfl, (blk_cell BK175.out 2).trans rfl, (blk_cell BK170.out 0).trans rfl, (blk_cell BK170.out 1).trans rfl⟩ (fun hHeld => ?_)
                              clear hK K
                              refine norm_ (a' := ?_) ?_ ?_
                              rotate_left
                              · show Act.put _ (some 12) _ = _
                                simp only [Act.put, List.setIfInBounds_toArray, List.set_cons_zero, List.set_cons_succ, i64_w, i32_w]
                                rfl
                              exact norm_ (by first | (simp only [putAll, Act.put, List.setIfInBounds_toArray, List.set_cons_zero, List.set_cons_succ]; done) | (simp only [putAll, Act.put, List.setIfInBounds_toArray, List.set_cons_zero, List.set_cons_succ]; rfl)) (hJ5_7_12_13 (v177, gb184, gb185) _ ⟨hHeld, (by (with_reducible repeat (first | apply Kd.R_alloc | apply Kd.R_drewN | apply Kd.R_drew)); exact HO173.out), (by (with_reducible repeat (first | apply MR.R_alloc | apply MR.R_drewN | apply MR.R_drew)); exact HO178.out), (by (with_reducible repeat (first | refine blk_drewN ?_ _ | refine blk_drew ?_ | refine blk_alloc ?_ _)); exact BK170.out), (by (with_reducible repeat (first | refine blk_drewN ?_ _ | refine blk_drew ?_ | refine blk_alloc ?_ _)); exact BK175.out), (by (with_reducible repeat (first | refine blk_drewN ?_ _ | refine blk_drew ?_ | refine blk_alloc ?_ _)); exact BK184.out), (by (with_reducible repeat (first | refine blk_drewN ?_ _ | refine blk_drew ?_ | refine blk_alloc ?_ _)); exact BK185.out), GW184.out, GE184.out, NB170_184.out, NB184_170.out, NB175_184.out, NB184_175.out, NB185_184.out, NB184_185.out, GW185.out, GE185.out, NB170_185.out, NB185_170.out, NB175_185.out, NB185_175.out, (by repeat (first | (with_reducible first | exact HB.out | apply below_alloc | apply pw_below_drewN | apply below_drew1 | refine below_set ?_ GE170.out | refine below_set ?_ GE175.out | refine below_set ?_ GE184.out | refine below_set ?_ GE185.out) | exact HB.out))⟩)
                          rintro ⟨v177, gb184, gb185⟩ w35 ⟨hS_, h0_, h1_, h2_, h3_, h4_, h5_, h6_, h7_, h8_, h9_, h10_, h11_, h12_, h13_, h14_, h15_, h16_, h17_, h18_, h19_, h20_⟩
                          have n0_ : Aside0 (Kd.R k38 38 w35 w.heap.size (fun k_ => k_ ≠ gb175) (.slice (some ad174) t171.length co23) t171) := ⟨h0_⟩
                          have n1_ : Aside0 (MR 5 w35 w.heap.size (fun _ => True) v177 y176) := ⟨h1_⟩
                          have n2_ : Aside0 (w35.heap[gb170]? = some (.cells #[.int .i64 a2_0, .int .i64 a2_1] 27 (0, 0))) := ⟨h2_⟩
                          have n3_ : Aside0 (w35.heap[gb175]? = some (.cells #[.string ((rd_T38 t171 (ji6)).f0), .int .i64 ((rd_T38 t171 (ji6)).f1), .int .i64 ((rd_T38 t171 (ji6)).f2)] 38 (0, 0))) := ⟨h3_⟩
                          have n4_ : Aside0 (w35.heap[gb184]? = some (.cells #[.int .i64 0, .int .i64 0] 27 (0, 0))) := ⟨h4_⟩
                          have n5_ : Aside0 (w35.heap[gb185]? = some (.cells #[.int .i64 0, .int .i64 0] 30 (0, 0))) := ⟨h5_⟩
                          have n6_ : Aside0 (w.heap.size ≤ gb184) := ⟨h6_⟩
                          have n7_ : Aside0 (w.heap.size ≤ gb184) := ⟨h7_⟩
                          have n8_ : Aside0 (gb170 ≠ gb184) := ⟨h8_⟩
                          have n9_ : Aside0 (gb184 ≠ gb170) := ⟨h9_⟩
                          have n10_ : Aside0 (gb175 ≠ gb184) := ⟨h10_⟩
                          have n11_ : Aside0 (gb184 ≠ gb175) := ⟨h11_⟩
                          have n12_ : Aside0 (gb185 ≠ gb184) := ⟨h12_⟩
                          have n13_ : Aside0 (gb184 ≠ gb185) := ⟨h13_⟩
                          have n14_ : Aside0 (w.heap.size ≤ gb185) := ⟨h14_⟩
                          have n15_ : Aside0 (w.heap.size ≤ gb185) := ⟨h15_⟩
                          have n16_ : Aside0 (gb170 ≠ gb185) := ⟨h16_⟩
                          have n17_ : Aside0 (gb185 ≠ gb170) := ⟨h17_⟩
                          have n18_ : Aside0 (gb175 ≠ gb185) := ⟨h18_⟩
                          have n19_ : Aside0 (gb185 ≠ gb175) := ⟨h19_⟩
                          have n20_ : Aside0 (Below w.heap.size w w35) := ⟨h20_⟩
                          clear HO173
                          clear BK170
                          clear BK175
                          clear HB
                          clear h0_ h1_ h2_ h3_ h4_ h5_ h6_ h7_ h8_ h9_ h10_ h11_ h12_ h13_ h14_ h15_ h16_ h17_ h18_ h19_ h20_
                          have HO173 := n0_
                          have HO178 := n1_
                          have BK170 := n2_
                          have BK175 := n3_
                          have BK184 := n4_
                          have BK185 := n5_
                          have GW184 := n6_
                          have GE184 := n7_
                          have NB170_184 := n8_
                          have NB184_170 := n9_
                          have NB175_184 := n10_
                          have NB184_175 := n11_
                          have NB185_184 := n12_
                          have NB184_185 := n13_
                          have GW185 := n14_
                          have GE185 := n15_
                          have NB170_185 := n16_
                          have NB185_170 := n17_
                          have NB175_185 := n18_
                          have NB185_175 := n19_
                          have HB := n20_
                          clear n0_ n1_ n2_ n3_ n4_ n5_ n6_ n7_ n8_ n9_ n10_ n11_ n12_ n13_ n14_ n15_ n16_ n17_ n18_ n19_ n20_
                          have hHeld : w35.cell? ⟨gb175, 0, none⟩ = some (.string ((rd_T38 t171 (ji6)).f0)) ∧ w35.cell? ⟨gb175, 1, none⟩ = some (.int .i64 ((rd_T38 t171 (ji6)).f1)) ∧ w35.cell? ⟨gb175, 2, none⟩ = some (.int .i64 ((rd_T38 t171 (ji6)).f2)) ∧ w35.cell? ⟨gb170, 0, none⟩ = some (.int .i64 a2_0) ∧ w35.cell? ⟨gb170, 1, none⟩ = some (.int .i64 a2_1) := hS_
                          refine norm_ (a' := ?_) ?_ ?_
                          rotate_left
                          · simp only [putAll, Act.put, List.setIfInBounds_toArray, List.set_cons_zero, List.set_cons_succ]
                            rfl
                          refine one_ (i := 14) (N := none) #[true, true, true, true, true, true, true, true, true, true, true, true, true, true, true, false, false] rfl rfl (one_of HT_.out (by kernel_rfl)) (by decide) (fun K hK => ?_)
                          have hs36 : w35.cell? ⟨gb184, 0, none⟩ = some (.int .i64 0) := (blk_cell BK184.out 0).trans rfl
                          have hfs36 := blk_frozen BK184.out 0
                          have hns36_0 := NB170_184.out
                          have hns36_1 := NB175_184.out
                          have hns36_3 := NB185_184.out
                          have hms36_0 := NB184_170.out
                          have hms36_1 := NB184_175.out
                          have hms36_3 := NB184_185.out
                          have hs37 : w35.cell? ⟨gb184, 1, none⟩ = some (.int .i64 0) := (blk_cell BK184.out 1).trans rfl
                          have hfs37 := blk_frozen BK184.out 1
                          have hns37_0 := NB170_184.out
                          have hns37_1 := NB175_184.out
                          have hns37_3 := NB185_184.out
                          have hms37_0 := NB184_170.out
                          have hms37_1 := NB184_175.out
                          have hms37_3 := NB184_185.out
                          refine skip_ (w1 := ?_) (by rfl) rfl ?_ ?_
                          rotate_left
                          · go_simp
                            rfl
                          refine hK.out _ _ ⟨((cell_far (p := ⟨gb184, _, none⟩) NB175_184.out _).trans (((cell_far (p := ⟨gb184, _, none⟩) NB175_184.out _).trans (hHeld.1)))), ((cell_far (p := ⟨gb184, _, none⟩) NB175_184.out _).trans (((cell_far (p := ⟨gb184, _, none⟩) NB175_184.out _).trans (hHeld.2.1)))), ((cell_far (p := ⟨gb184, _, none⟩) NB175_184.out _).trans (((cell_far (p := ⟨gb184, _, none⟩) NB175_184.out _).trans (hHeld.2.2.1)))), ((cell_far (p := ⟨gb184, _, none⟩) NB170_184.out _).trans (((cell_far (p := ⟨gb184, _, none⟩) NB170_184.out _).trans (hHeld.2.2.2.1)))), ((cell_far (p := ⟨gb184, _, none⟩) NB170_184.out _).trans (((cell_far (p := ⟨gb184, _, none⟩) NB170_184.out _).trans (hHeld.2.2.2.2))))⟩ (fun hHeld => ?_)
                          clear hK K
                          refine pure_ (i := 15) (N := some 11) (v := ?_) (a' := ?_) #[true, true, true, true, true, true, true, true, true, true, true, true, true, true, true, true, false] rfl rfl (any_of HT_.out (by kernel_rfl)) (fun _ _ _ h => h) (Or.inl ⟨by rfl, ?_⟩) ?_ ?_
                          rotate_left
                          · intro w'
                            go_simp
                            with_reducible rfl
                          rotate_left
                          · simp only [Act.put, List.setIfInBounds_toArray, List.set_cons_zero, List.set_cons_succ, i64_w, i32_w]
                            rfl
                          refine one_ (i := 16) (N := none) #[true, true, true, true, true, true, true, true, true, true, true, true, true, true, true, true, true] rfl rfl (one_of HT_.out (by kernel_rfl)) (by decide) (fun K hK => ?_)
                          have hs38 : w35.cell? ⟨gb185, 0, none⟩ = some (.int .i64 0) := (blk_cell BK185.out 0).trans rfl
                          have hfs38 := blk_frozen BK185.out 0
                          have hns38_0 := NB170_185.out
                          have hns38_1 := NB175_185.out
                          have hns38_2 := NB184_185.out
                          have hms38_0 := NB185_170.out
                          have hms38_1 := NB185_175.out
                          have hms38_2 := NB185_184.out
                          have hs39 : w35.cell? ⟨gb185, 1, none⟩ = some (.int .i64 0) := (blk_cell BK185.out 1).trans rfl
                          have hfs39 := blk_frozen BK185.out 1
                          have hns39_0 := NB170_185.out
                          have hns39_1 := NB175_185.out
                          have hns39_2 := NB184_185.out
                          have hms39_0 := NB185_170.out
                          have hms39_1 := NB185_175.out
                          have hms39_2 := NB185_184.out
                          refine skip_ (w1 := ?_) (by rfl) rfl ?_ ?_
                          rotate_left
                          · go_simp
                            rfl
                          refine hK.out _ _ ⟨((cell_far (p := ⟨gb185, _, none⟩) NB175_185.out _).trans (((cell_far (p := ⟨gb185, _, none⟩) NB175_185.out _).trans (hHeld.1)))), ((cell_far (p := ⟨gb185, _, none⟩) NB175_185.out _).trans (((cell_far (p := ⟨gb185, _, none⟩) NB175_185.out _).trans (hHeld.2.1)))), ((cell_far (p := ⟨gb185, _, none⟩) NB175_185.out _).trans (((cell_far (p := ⟨gb185, _, none⟩) NB175_185.out _).trans (hHeld.2.2.1)))), ((cell_far (p := ⟨gb185, _, none⟩) NB170_185.out _).trans (((cell_far (p := ⟨gb185, _, none⟩) NB170_185.out _).trans (hHeld.2.2.2.1)))), ((cell_far (p := ⟨gb185, _, none⟩) NB170_185.out _).trans (((cell_far (p := ⟨gb185, _, none⟩) NB170_185.out _).trans (hHeld.2.2.2.2))))⟩ (fun hHeld => ?_)
                          clear hK K
                          refine done_ (done_of HT_.out (by kernel_rfl)) ?_
                          have hnb40 := NB175_184.out
                          have hnc40 := NB184_175.out
                          have hnb41 := NB175_185.out
                          have hnc41 := NB185_175.out
                          have hcz42_0 : w35.cell? ⟨gb175, 0, none⟩ = some (.string ((rd_T38 t171 (ji6)).f0)) := (blk_cell BK175.out 0).trans rfl
                          have hcz42_1 : w35.cell? ⟨gb175, 1, none⟩ = some (.int .i64 ((rd_T38 t171 (ji6)).f1)) := (blk_cell BK175.out 1).trans rfl
                          have hcz42_2 : w35.cell? ⟨gb175, 2, none⟩ = some (.int .i64 ((rd_T38 t171 (ji6)).f2)) := (blk_cell BK175.out 2).trans rfl
                          have hfz42_0 := blk_frozen BK175.out 0
                          have hfz42_1 := blk_frozen BK175.out 1
                          have hfz42_2 := blk_frozen BK175.out 2
                          try go_wp2_with (first | ((with_reducible refine gate_dst (N := 49) rfl ?_); refine MR.lit (ok := fun _ => True) ((rd_T38 t171 (ji6)).f0) y186 Ny186.out SBy186 5 ?hg (N := 49) ?hd ?hr trivial ?_; (case hd => rfl); (case hg => rfl); (case hr => first | (go_simp; done) | (go_simp; rfl)); intro v187 w43 ho44 hb hg_ hnew_; clear hg_ hnew_; skip; have n0_ := Aside0.mk (Kd.R_below (by (with_reducible repeat (first | apply Kd.R_alloc | apply Kd.R_drewN | apply Kd.R_drew)); exact (Kd.R_mono (Kd.R_mono (Kd.R_far (p := ⟨gb185, 1, none⟩) (Kd.R_far (p := ⟨gb185, 0, none⟩) (Kd.R_far (p := ⟨gb184, 1, none⟩) (Kd.R_far (p := ⟨gb184, 0, none⟩) (Kd.R_types (Kd.R_types HO173.out BK184.out (by decide)) BK185.out (by decide)) (fun _ hk => hk.1.2) (.int .i64 t179)) (fun _ hk => hk.1.2) (.int .i64 t180)) (fun _ hk => hk.2) (.int .i64 t182)) (fun _ hk => hk.2) (.int .i64 t183)) (fun _ h_ => h_.1)) (fun _ h_ => h_.1))) hb); have n1_ := Aside0.mk (MR.R_elder' (by (with_reducible repeat (first | apply MR.R_alloc | apply MR.R_drewN | apply MR.R_drew)); exact (MR.R_mono (MR.R_mono (MR.R_far (p := ⟨gb185, 1, none⟩) (MR.R_far (p := ⟨gb185, 0, none⟩) (MR.R_far (p := ⟨gb184, 1, none⟩) (MR.R_far (p := ⟨gb184, 0, none⟩) (MR.R_types (MR.R_types HO178.out BK184.out (by decide)) BK185.out (by decide)) (fun _ hk => hk.1.2) (.int .i64 t179)) (fun _ hk => hk.1.2) (.int .i64 t180)) (fun _ hk => hk.2) (.int .i64 t182)) (fun _ hk => hk.2) (.int .i64 t183)) (fun _ h_ => h_.1)) (fun _ h_ => h_.1))) (MR.R_base ho44) hb); have n2_ := Aside0.mk (MR.R_lower (MR.R_new' ho44 (MR.R_lt (by (with_reducible repeat (first | apply MR.R_alloc | apply MR.R_drewN | apply MR.R_drew)); exact (MR.R_mono (MR.R_mono (MR.R_far (p := ⟨gb185, 1, none⟩) (MR.R_far (p := ⟨gb185, 0, none⟩) (MR.R_far (p := ⟨gb184, 1, none⟩) (MR.R_far (p := ⟨gb184, 0, none⟩) (MR.R_types (MR.R_types HO178.out BK184.out (by decide)) BK185.out (by decide)) (fun _ hk => hk.1.2) (.int .i64 t179)) (fun _ hk => hk.1.2) (.int .i64 t180)) (fun _ hk => hk.2) (.int .i64 t182)) (fun _ hk => hk.2) (.int .i64 t183)) (fun _ h_ => h_.1)) (fun _ h_ => h_.1))))) (below_size (by repeat (first | (with_reducible first | exact HB.out | apply below_alloc | apply pw_below_drewN | apply below_drew1 | refine below_set ?_ GE170.out | refine below_set ?_ GE175.out | refine below_set ?_ GE184.out | refine below_set ?_ GE185.out) | exact HB.out)))); have n3_ := Aside0.mk (blk_below (g := gb170) (o := .cells #[.int .i64 a2_0, .int .i64 a2_1] 27 (0, 0)) (by (with_reducible repeat (first | refine blk_drewN ?_ _ | refine blk_drew ?_ | refine blk_alloc ?_ _)); refine blk_far ?_ NB170_185.out _; (with_reducible repeat (first | refine blk_drewN ?_ _ | refine blk_drew ?_ | refine blk_alloc ?_ _)); refine blk_far ?_ NB170_185.out _; (with_reducible repeat (first | refine blk_drewN ?_ _ | refine blk_drew ?_ | refine blk_alloc ?_ _)); refine blk_far ?_ NB170_184.out _; (with_reducible repeat (first | refine blk_drewN ?_ _ | refine blk_drew ?_ | refine blk_alloc ?_ _)); refine blk_far ?_ NB170_184.out _; (with_reducible repeat (first | refine blk_drewN ?_ _ | refine blk_drew ?_ | refine blk_alloc ?_ _)); exact BK170.out) hb); have n4_ := Aside0.mk (blk_below (g := gb175) (o := .cells #[.string ((rd_T38 t171 (ji6)).f0), .int .i64 ((rd_T38 t171 (ji6)).f1), .int .i64 ((rd_T38 t171 (ji6)).f2)] 38 (0, 0)) (by (with_reducible repeat (first | refine blk_drewN ?_ _ | refine blk_drew ?_ | refine blk_alloc ?_ _)); refine blk_far ?_ NB175_185.out _; (with_reducible repeat (first | refine blk_drewN ?_ _ | refine blk_drew ?_ | refine blk_alloc ?_ _)); refine blk_far ?_ NB175_185.out _; (with_reducible repeat (first | refine blk_drewN ?_ _ | refine blk_drew ?_ | refine blk_alloc ?_ _)); refine blk_far ?_ NB175_184.out _; (with_reducible repeat (first | refine blk_drewN ?_ _ | refine blk_drew ?_ | refine blk_alloc ?_ _)); refine blk_far ?_ NB175_184.out _; (with_reducible repeat (first | refine blk_drewN ?_ _ | refine blk_drew ?_ | refine blk_alloc ?_ _)); exact BK175.out) hb); have n5_ := Aside0.mk (blk_below (g := gb184) (o := .cells #[.int .i64 t179, .int .i64 t180] 27 (0, 0)) (by (with_reducible repeat (first | refine blk_drewN ?_ _ | refine blk_drew ?_ | refine blk_alloc ?_ _)); refine blk_far ?_ NB184_185.out _; (with_reducible repeat (first | refine blk_drewN ?_ _ | refine blk_drew ?_ | refine blk_alloc ?_ _)); refine blk_far ?_ NB184_185.out _; (with_reducible repeat (first | refine blk_drewN ?_ _ | refine blk_drew ?_ | refine blk_alloc ?_ _)); refine blk_put (cs := #[.int .i64 t179, .int .i64 0]) ?_ 1 _ rfl; (with_reducible repeat (first | refine blk_drewN ?_ _ | refine blk_drew ?_ | refine blk_alloc ?_ _)); refine blk_put (cs := #[.int .i64 0, .int .i64 0]) ?_ 0 _ rfl; (with_reducible repeat (first | refine blk_drewN ?_ _ | refine blk_drew ?_ | refine blk_alloc ?_ _)); exact BK184.out) hb); have n6_ := Aside0.mk (blk_below (g := gb185) (o := .cells #[.int .i64 t182, .int .i64 t183] 30 (0, 0)) (by (with_reducible repeat (first | refine blk_drewN ?_ _ | refine blk_drew ?_ | refine blk_alloc ?_ _)); refine blk_put (cs := #[.int .i64 t182, .int .i64 0]) ?_ 1 _ rfl; (with_reducible repeat (first | refine blk_drewN ?_ _ | refine blk_drew ?_ | refine blk_alloc ?_ _)); refine blk_put (cs := #[.int .i64 0, .int .i64 0]) ?_ 0 _ rfl; (with_reducible repeat (first | refine blk_drewN ?_ _ | refine blk_drew ?_ | refine blk_alloc ?_ _)); refine blk_far ?_ NB185_184.out _; (with_reducible repeat (first | refine blk_drewN ?_ _ | refine blk_drew ?_ | refine blk_alloc ?_ _)); refine blk_far ?_ NB185_184.out _; (with_reducible repeat (first | refine blk_drewN ?_ _ | refine blk_drew ?_ | refine blk_alloc ?_ _)); exact BK185.out) hb); have n7_ := Aside0.mk (below_step (by repeat (first | (with_reducible first | exact HB.out | apply below_alloc | apply pw_below_drewN | apply below_drew1 | refine below_set ?_ GE170.out | refine below_set ?_ GE175.out | refine below_set ?_ GE184.out | refine below_set ?_ GE185.out) | exact HB.out)) hb); clear HO173; clear HO178; clear BK170; clear BK175; clear BK184; clear BK185; clear HB; have HO173 := n0_; have HO178 := n1_; have HO188 := n2_; have BK170 := n3_; have BK175 := n4_; have BK184 := n5_; have BK185 := n6_; have HB := n7_; clear n0_ n1_ n2_ n3_ n4_ n5_ n6_ n7_; clear hb ho44; have hnb45 := NB170_184.out; have hnc45 := NB184_170.out; have hnb46 := NB170_185.out; have hnc46 := NB185_170.out; have hcz47_0 : w43.cell? ⟨gb170, 0, none⟩ = some (.int .i64 a2_0) := (blk_cell BK170.out 0).trans rfl; have hcz47_1 : w43.cell? ⟨gb170, 1, none⟩ = some (.int .i64 a2_1) := (blk_cell BK170.out 1).trans rfl; have hfz47_0 := blk_frozen BK170.out 0; have hfz47_1 := blk_frozen BK170.out 1; obtain ⟨Ao48, co48, eo48⟩ := MR.R_slice HO188.out; subst eo48) | ((with_reducible refine gate_callee (f := 23) rfl ?_); refine goesL_ (some 51) rfl rfl Try.func23 (by kernel_rfl) rfl #[.slice Ao48 y186.length co48, .int .i64 1, .agg #[.int .i64 a2_0, .int .i64 a2_1]] rfl (by (try simp only [List.map_toArray, List.map_cons, List.map_nil]); first | done | rfl | (simp only [List.length_drop, List.length_take]; rfl)) ?_; (with_reducible refine (escape_Next.calls k _ _ y186 1 a2_0 a2_1 t189 t190 t191 t192 t193 _ ?side1 ?side2 A15.out).mono ?_); (case side1 => repeat (first | exact (MR.R_reads' HO188.out).2.2 | (with_reducible refine Kd.C_alloc ?_ _) | (with_reducible refine Kd.C_drewN ?_ _) | (with_reducible refine Kd.C_drew ?_))); (case side2 => exact (MR.R_reads' HO188.out).2.1); rintro e w49 ⟨rfl, hb⟩; refine ⟨_, rfl, ?_⟩; have n0_ := Aside0.mk (Kd.R_below (by (with_reducible repeat (first | apply Kd.R_alloc | apply Kd.R_drewN | apply Kd.R_drew)); exact HO173.out) hb); have n1_ := Aside0.mk (MR.R_below (by (with_reducible repeat (first | apply MR.R_alloc | apply MR.R_drewN | apply MR.R_drew)); exact HO178.out) hb); have n2_ := Aside0.mk (MR.R_below (by (with_reducible repeat (first | apply MR.R_alloc | apply MR.R_drewN | apply MR.R_drew)); exact HO188.out) hb); have n3_ := Aside0.mk (blk_below (g := gb170) (o := .cells #[.int .i64 a2_0, .int .i64 a2_1] 27 (0, 0)) (by (with_reducible repeat (first | refine blk_drewN ?_ _ | refine blk_drew ?_ | refine blk_alloc ?_ _)); exact BK170.out) hb); have n4_ := Aside0.mk (blk_below (g := gb175) (o := .cells #[.string ((rd_T38 t171 (ji6)).f0), .int .i64 ((rd_T38 t171 (ji6)).f1), .int .i64 ((rd_T38 t171 (ji6)).f2)] 38 (0, 0)) (by (with_reducible repeat (first | refine blk_drewN ?_ _ | refine blk_drew ?_ | refine blk_alloc ?_ _)); exact BK175.out) hb); have n5_ := Aside0.mk (blk_below (g := gb184) (o := .cells #[.int .i64 t179, .int .i64 t180] 27 (0, 0)) (by (with_reducible repeat (first | refine blk_drewN ?_ _ | refine blk_drew ?_ | refine blk_alloc ?_ _)); exact BK184.out) hb); have n6_ := Aside0.mk (blk_below (g := gb185) (o := .cells #[.int .i64 t182, .int .i64 t183] 30 (0, 0)) (by (with_reducible repeat (first | refine blk_drewN ?_ _ | refine blk_drew ?_ | refine blk_alloc ?_ _)); exact BK185.out) hb); have n7_ := Aside0.mk (below_step (by repeat (first | (with_reducible first | exact HB.out | apply below_alloc | apply pw_below_drewN | apply below_drew1 | refine below_set ?_ GE170.out | refine below_set ?_ GE175.out | refine below_set ?_ GE184.out | refine below_set ?_ GE185.out) | exact HB.out)) hb); clear HO173; clear HO178; clear HO188; clear BK170; clear BK175; clear BK184; clear BK185; clear HB; have HO173 := n0_; have HO178 := n1_; have HO188 := n2_; have BK170 := n3_; have BK175 := n4_; have BK184 := n5_; have BK185 := n6_; have HB := n7_; clear n0_ n1_ n2_ n3_ n4_ n5_ n6_ n7_; (try clear hb); (try clear hb2); (try clear hk); (try clear hi)) | ((with_reducible refine gate_dst (N := 13) rfl ?_); refine box_event ?hg (N := 13) ?hd (cs := #[.int .i64 0, .int .i64 0]) (t := 27) ?hr ?_; (case hd => rfl); (case hg => rfl); (case hr => first | (go_simp; done) | (go_simp; rfl)); intro gb194 hg w50 hbox hb; have n0_ := Aside0.mk (Kd.R_below (by (with_reducible repeat (first | apply Kd.R_alloc | apply Kd.R_drewN | apply Kd.R_drew)); exact HO173.out) hb); have n1_ := Aside0.mk (MR.R_below (by (with_reducible repeat (first | apply MR.R_alloc | apply MR.R_drewN | apply MR.R_drew)); exact HO178.out) hb); have n2_ := Aside0.mk (MR.R_below (by (with_reducible repeat (first | apply MR.R_alloc | apply MR.R_drewN | apply MR.R_drew)); exact HO188.out) hb); have n3_ := Aside0.mk (blk_below (g := gb170) (o := .cells #[.int .i64 a2_0, .int .i64 a2_1] 27 (0, 0)) (by (with_reducible repeat (first | refine blk_drewN ?_ _ | refine blk_drew ?_ | refine blk_alloc ?_ _)); exact BK170.out) hb); have n4_ := Aside0.mk (blk_below (g := gb175) (o := .cells #[.string ((rd_T38 t171 (ji6)).f0), .int .i64 ((rd_T38 t171 (ji6)).f1), .int .i64 ((rd_T38 t171 (ji6)).f2)] 38 (0, 0)) (by (with_reducible repeat (first | refine blk_drewN ?_ _ | refine blk_drew ?_ | refine blk_alloc ?_ _)); exact BK175.out) hb); have n5_ := Aside0.mk (blk_below (g := gb184) (o := .cells #[.int .i64 t179, .int .i64 t180] 27 (0, 0)) (by (with_reducible repeat (first | refine blk_drewN ?_ _ | refine blk_drew ?_ | refine blk_alloc ?_ _)); exact BK184.out) hb); have n6_ := Aside0.mk (blk_below (g := gb185) (o := .cells #[.int .i64 t182, .int .i64 t183] 30 (0, 0)) (by (with_reducible repeat (first | refine blk_drewN ?_ _ | refine blk_drew ?_ | refine blk_alloc ?_ _)); exact BK185.out) hb); have n7_ := Aside0.mk (below_step (by repeat (first | (with_reducible first | exact HB.out | apply below_alloc | apply pw_below_drewN | apply below_drew1 | refine below_set ?_ GE170.out | refine below_set ?_ GE175.out | refine below_set ?_ GE184.out | refine below_set ?_ GE185.out) | exact HB.out)) hb); have n8_ := Aside0.mk (hbox); have n9_ := Aside0.mk ((by rw [hg]; exact (below_size (by repeat (first | (with_reducible first | exact HB.out | apply below_alloc | apply pw_below_drewN | apply below_drew1 | refine below_set ?_ GE170.out | refine below_set ?_ GE175.out | refine below_set ?_ GE184.out | refine below_set ?_ GE185.out) | exact HB.out))) : w.heap.size ≤ gb194)); have n10_ := Aside0.mk ((by rw [hg]; exact (below_size (by repeat (first | (with_reducible first | exact HB.out | apply below_alloc | apply pw_below_drewN | apply below_drew1 | refine below_set ?_ GE170.out | refine below_set ?_ GE175.out | refine below_set ?_ GE184.out | refine below_set ?_ GE185.out) | exact HB.out))) : w.heap.size ≤ gb194)); have n11_ := Aside0.mk ((by rw [hg]; exact Nat.ne_of_lt (blk_lt (g := gb170) (o := .cells #[.int .i64 a2_0, .int .i64 a2_1] 27 (0, 0)) (by (with_reducible repeat (first | refine blk_drewN ?_ _ | refine blk_drew ?_ | refine blk_alloc ?_ _)); exact BK170.out)) : gb170 ≠ gb194)); have n12_ := Aside0.mk ((by rw [hg]; exact Nat.ne_of_gt (blk_lt (g := gb170) (o := .cells #[.int .i64 a2_0, .int .i64 a2_1] 27 (0, 0)) (by (with_reducible repeat (first | refine blk_drewN ?_ _ | refine blk_drew ?_ | refine blk_alloc ?_ _)); exact BK170.out)) : gb194 ≠ gb170)); have n13_ := Aside0.mk ((by rw [hg]; exact Nat.ne_of_lt (blk_lt (g := gb175) (o := .cells #[.string ((rd_T38 t171 (ji6)).f0), .int .i64 ((rd_T38 t171 (ji6)).f1), .int .i64 ((rd_T38 t171 (ji6)).f2)] 38 (0, 0)) (by (with_reducible repeat (first | refine blk_drewN ?_ _ | refine blk_drew ?_ | refine blk_alloc ?_ _)); exact BK175.out)) : gb175 ≠ gb194)); have n14_ := Aside0.mk ((by rw [hg]; exact Nat.ne_of_gt (blk_lt (g := gb175) (o := .cells #[.string ((rd_T38 t171 (ji6)).f0), .int .i64 ((rd_T38 t171 (ji6)).f1), .int .i64 ((rd_T38 t171 (ji6)).f2)] 38 (0, 0)) (by (with_reducible repeat (first | refine blk_drewN ?_ _ | refine blk_drew ?_ | refine blk_alloc ?_ _)); exact BK175.out)) : gb194 ≠ gb175)); have n15_ := Aside0.mk ((by rw [hg]; exact Nat.ne_of_lt (blk_lt (g := gb184) (o := .cells #[.int .i64 t179, .int .i64 t180] 27 (0, 0)) (by (with_reducible repeat (first | refine blk_drewN ?_ _ | refine blk_drew ?_ | refine blk_alloc ?_ _)); exact BK184.out)) : gb184 ≠ gb194)); have n16_ := Aside0.mk ((by rw [hg]; exact Nat.ne_of_gt (blk_lt (g := gb184) (o := .cells #[.int .i64 t179, .int .i64 t180] 27 (0, 0)) (by (with_reducible repeat (first | refine blk_drewN ?_ _ | refine blk_drew ?_ | refine blk_alloc ?_ _)); exact BK184.out)) : gb194 ≠ gb184)); have n17_ := Aside0.mk ((by rw [hg]; exact Nat.ne_of_lt (blk_lt (g := gb185) (o := .cells #[.int .i64 t182, .int .i64 t183] 30 (0, 0)) (by (with_reducible repeat (first | refine blk_drewN ?_ _ | refine blk_drew ?_ | refine blk_alloc ?_ _)); exact BK185.out)) : gb185 ≠ gb194)); have n18_ := Aside0.mk ((by rw [hg]; exact Nat.ne_of_gt (blk_lt (g := gb185) (o := .cells #[.int .i64 t182, .int .i64 t183] 30 (0, 0)) (by (with_reducible repeat (first | refine blk_drewN ?_ _ | refine blk_drew ?_ | refine blk_alloc ?_ _)); exact BK185.out)) : gb194 ≠ gb185)); clear HO173; clear HO178; clear HO188; clear BK170; clear BK175; clear BK184; clear BK185; clear HB; have HO173 := n0_; have HO178 := n1_; have HO188 := n2_; have BK170 := n3_; have BK175 := n4_; have BK184 := n5_; have BK185 := n6_; have HB := n7_; have BK194 := n8_; have GW194 := n9_; have GE194 := n10_; have NB170_194 := n11_; have NB194_170 := n12_; have NB175_194 := n13_; have NB194_175 := n14_; have NB184_194 := n15_; have NB194_184 := n16_; have NB185_194 := n17_; have NB194_185 := n18_; clear n0_ n1_ n2_ n3_ n4_ n5_ n6_ n7_ n8_ n9_ n10_ n11_ n12_ n13_ n14_ n15_ n16_ n17_ n18_; clear hb hbox hg) | ((with_reducible refine gate_dst (N := 15) rfl ?_); refine box_event ?hg (N := 15) ?hd (cs := #[.int .i64 0, .int .i64 0]) (t := 30) ?hr ?_; (case hd => rfl); (case hg => rfl); (case hr => first | (go_simp; done) | (go_simp; rfl)); intro gb195 hg w51 hbox hb; have n0_ := Aside0.mk (Kd.R_below (by (with_reducible repeat (first | apply Kd.R_alloc | apply Kd.R_drewN | apply Kd.R_drew)); exact HO173.out) hb); have n1_ := Aside0.mk (MR.R_below (by (with_reducible repeat (first | apply MR.R_alloc | apply MR.R_drewN | apply MR.R_drew)); exact HO178.out) hb); have n2_ := Aside0.mk (MR.R_below (by (with_reducible repeat (first | apply MR.R_alloc | apply MR.R_drewN | apply MR.R_drew)); exact HO188.out) hb); have n3_ := Aside0.mk (blk_below (g := gb170) (o := .cells #[.int .i64 a2_0, .int .i64 a2_1] 27 (0, 0)) (by (with_reducible repeat (first | refine blk_drewN ?_ _ | refine blk_drew ?_ | refine blk_alloc ?_ _)); exact BK170.out) hb); have n4_ := Aside0.mk (blk_below (g := gb175) (o := .cells #[.string ((rd_T38 t171 (ji6)).f0), .int .i64 ((rd_T38 t171 (ji6)).f1), .int .i64 ((rd_T38 t171 (ji6)).f2)] 38 (0, 0)) (by (with_reducible repeat (first | refine blk_drewN ?_ _ | refine blk_drew ?_ | refine blk_alloc ?_ _)); exact BK175.out) hb); have n5_ := Aside0.mk (blk_below (g := gb184) (o := .cells #[.int .i64 t179, .int .i64 t180] 27 (0, 0)) (by (with_reducible repeat (first | refine blk_drewN ?_ _ | refine blk_drew ?_ | refine blk_alloc ?_ _)); exact BK184.out) hb); have n6_ := Aside0.mk (blk_below (g := gb185) (o := .cells #[.int .i64 t182, .int .i64 t183] 30 (0, 0)) (by (with_reducible repeat (first | refine blk_drewN ?_ _ | refine blk_drew ?_ | refine blk_alloc ?_ _)); exact BK185.out) hb); have n7_ := Aside0.mk (blk_below (g := gb194) (o := .cells #[.int .i64 0, .int .i64 0] 27 (0, 0)) (by (with_reducible repeat (first | refine blk_drewN ?_ _ | refine blk_drew ?_ | refine blk_alloc ?_ _)); exact BK194.out) hb); have n8_ := Aside0.mk (below_step (by repeat (first | (with_reducible first | exact HB.out | apply below_alloc | apply pw_below_drewN | apply below_drew1 | refine below_set ?_ GE170.out | refine below_set ?_ GE175.out | refine below_set ?_ GE184.out | refine below_set ?_ GE185.out | refine below_set ?_ GE194.out) | exact HB.out)) hb); have n9_ := Aside0.mk (hbox); have n10_ := Aside0.mk ((by rw [hg]; exact (below_size (by repeat (first | (with_reducible first | exact HB.out | apply below_alloc | apply pw_below_drewN | apply below_drew1 | refine below_set ?_ GE170.out | refine below_set ?_ GE175.out | refine below_set ?_ GE184.out | refine below_set ?_ GE185.out | refine below_set ?_ GE194.out) | exact HB.out))) : w.heap.size ≤ gb195)); have n11_ := Aside0.mk ((by rw [hg]; exact (below_size (by repeat (first | (with_reducible first | exact HB.out | apply below_alloc | apply pw_below_drewN | apply below_drew1 | refine below_set ?_ GE170.out | refine below_set ?_ GE175.out | refine below_set ?_ GE184.out | refine below_set ?_ GE185.out | refine below_set ?_ GE194.out) | exact HB.out))) : w.heap.size ≤ gb195)); have n12_ := Aside0.mk ((by rw [hg]; exact Nat.ne_of_lt (blk_lt (g := gb170) (o := .cells #[.int .i64 a2_0, .int .i64 a2_1] 27 (0, 0)) (by (with_reducible repeat (first | refine blk_drewN ?_ _ | refine blk_drew ?_ | refine blk_alloc ?_ _)); exact BK170.out)) : gb170 ≠ gb195)); have n13_ := Aside0.mk ((by rw [hg]; exact Nat.ne_of_gt (blk_lt (g := gb170) (o := .cells #[.int .i64 a2_0, .int .i64 a2_1] 27 (0, 0)) (by (with_reducible repeat (first | refine blk_drewN ?_ _ | refine blk_drew ?_ | refine blk_alloc ?_ _)); exact BK170.out)) : gb195 ≠ gb170)); have n14_ := Aside0.mk ((by rw [hg]; exact Nat.ne_of_lt (blk_lt (g := gb175) (o := .cells #[.string ((rd_T38 t171 (ji6)).f0), .int .i64 ((rd_T38 t171 (ji6)).f1), .int .i64 ((rd_T38 t171 (ji6)).f2)] 38 (0, 0)) (by (with_reducible repeat (first | refine blk_drewN ?_ _ | refine blk_drew ?_ | refine blk_alloc ?_ _)); exact BK175.out)) : gb175 ≠ gb195)); have n15_ := Aside0.mk ((by rw [hg]; exact Nat.ne_of_gt (blk_lt (g := gb175) (o := .cells #[.string ((rd_T38 t171 (ji6)).f0), .int .i64 ((rd_T38 t171 (ji6)).f1), .int .i64 ((rd_T38 t171 (ji6)).f2)] 38 (0, 0)) (by (with_reducible repeat (first | refine blk_drewN ?_ _ | refine blk_drew ?_ | refine blk_alloc ?_ _)); exact BK175.out)) : gb195 ≠ gb175)); have n16_ := Aside0.mk ((by rw [hg]; exact Nat.ne_of_lt (blk_lt (g := gb184) (o := .cells #[.int .i64 t179, .int .i64 t180] 27 (0, 0)) (by (with_reducible repeat (first | refine blk_drewN ?_ _ | refine blk_drew ?_ | refine blk_alloc ?_ _)); exact BK184.out)) : gb184 ≠ gb195)); have n17_ := Aside0.mk ((by rw [hg]; exact Nat.ne_of_gt (blk_lt (g := gb184) (o := .cells #[.int .i64 t179, .int .i64 t180] 27 (0, 0)) (by (with_reducible repeat (first | refine blk_drewN ?_ _ | refine blk_drew ?_ | refine blk_alloc ?_ _)); exact BK184.out)) : gb195 ≠ gb184)); have n18_ := Aside0.mk ((by rw [hg]; exact Nat.ne_of_lt (blk_lt (g := gb185) (o := .cells #[.int .i64 t182, .int .i64 t183] 30 (0, 0)) (by (with_reducible repeat (first | refine blk_drewN ?_ _ | refine blk_drew ?_ | refine blk_alloc ?_ _)); exact BK185.out)) : gb185 ≠ gb195)); have n19_ := Aside0.mk ((by rw [hg]; exact Nat.ne_of_gt (blk_lt (g := gb185) (o := .cells #[.int .i64 t182, .int .i64 t183] 30 (0, 0)) (by (with_reducible repeat (first | refine blk_drewN ?_ _ | refine blk_drew ?_ | refine blk_alloc ?_ _)); exact BK185.out)) : gb195 ≠ gb185)); have n20_ := Aside0.mk ((by rw [hg]; exact Nat.ne_of_lt (blk_lt (g := gb194) (o := .cells #[.int .i64 0, .int .i64 0] 27 (0, 0)) (by (with_reducible repeat (first | refine blk_drewN ?_ _ | refine blk_drew ?_ | refine blk_alloc ?_ _)); exact BK194.out)) : gb194 ≠ gb195)); have n21_ := Aside0.mk ((by rw [hg]; exact Nat.ne_of_gt (blk_lt (g := gb194) (o := .cells #[.int .i64 0, .int .i64 0] 27 (0, 0)) (by (with_reducible repeat (first | refine blk_drewN ?_ _ | refine blk_drew ?_ | refine blk_alloc ?_ _)); exact BK194.out)) : gb195 ≠ gb194)); clear HO173; clear HO178; clear HO188; clear BK170; clear BK175; clear BK184; clear BK185; clear BK194; clear HB; have HO173 := n0_; have HO178 := n1_; have HO188 := n2_; have BK170 := n3_; have BK175 := n4_; have BK184 := n5_; have BK185 := n6_; have BK194 := n7_; have HB := n8_; have BK195 := n9_; have GW195 := n10_; have GE195 := n11_; have NB170_195 := n12_; have NB195_170 := n13_; have NB175_195 := n14_; have NB195_175 := n15_; have NB184_195 := n16_; have NB195_184 := n17_; have NB185_195 := n18_; have NB195_185 := n19_; have NB194_195 := n20_; have NB195_194 := n21_; clear n0_ n1_ n2_ n3_ n4_ n5_ n6_ n7_ n8_ n9_ n10_ n11_ n12_ n13_ n14_ n15_ n16_ n17_ n18_ n19_ n20_ n21_; clear hb hbox hg; have hnb52 := NB194_170.out; have hnc52 := NB170_194.out; have hnb53 := NB194_175.out; have hnc53 := NB175_194.out; have hnb54 := NB194_184.out; have hnc54 := NB184_194.out; have hnb55 := NB194_185.out; have hnc55 := NB185_194.out; have hnb56 := NB194_195.out; have hnc56 := NB195_194.out; have hcz57_0 : w51.cell? ⟨gb194, 0, none⟩ = some (.int .i64 0) := (blk_cell BK194.out 0).trans rfl; have hcz57_1 : w51.cell? ⟨gb194, 1, none⟩ = some (.int .i64 0) := (blk_cell BK194.out 1).trans rfl; have hfz57_0 := blk_frozen BK194.out 0; have hfz57_1 := blk_frozen BK194.out 1; have hnb58 := NB195_170.out; have hnc58 := NB170_195.out; have hnb59 := NB195_175.out; have hnc59 := NB175_195.out; have hnb60 := NB195_184.out; have hnc60 := NB184_195.out; have hnb61 := NB195_185.out; have hnc61 := NB185_195.out; have hcz62_0 : w51.cell? ⟨gb195, 0, none⟩ = some (.int .i64 0) := (blk_cell BK195.out 0).trans rfl; have hcz62_1 : w51.cell? ⟨gb195, 1, none⟩ = some (.int .i64 0) := (blk_cell BK195.out 1).trans rfl; have hfz62_0 := blk_frozen BK195.out 0; have hfz62_1 := blk_frozen BK195.out 1) | ((with_reducible refine gate_dst (N := 16) rfl ?_); refine box_event ?hg (N := 16) ?hd (cs := #[.int .i64 0, .int .i64 0]) (t := 30) ?hr ?_; (case hd => rfl); (case hg => rfl); (case hr => first | (go_simp; done) | (go_simp; rfl)); intro gb196 hg w63 hbox hb; have n0_ := Aside0.mk (Kd.R_below (by (with_reducible repeat (first | apply Kd.R_alloc | apply Kd.R_drewN | apply Kd.R_drew)); exact (Kd.R_mono (Kd.R_mono (Kd.R_far (p := ⟨gb195, 1, none⟩) (Kd.R_far (p := ⟨gb195, 0, none⟩) (Kd.R_far (p := ⟨gb194, 1, none⟩) (Kd.R_far (p := ⟨gb194, 0, none⟩) (Kd.R_types (Kd.R_types HO173.out BK194.out (by decide)) BK195.out (by decide)) (fun _ hk => hk.1.2) (.int .i64 t189)) (fun _ hk => hk.1.2) (.int .i64 t190)) (fun _ hk => hk.2) (.int .i64 t192)) (fun _ hk => hk.2) (.int .i64 t193)) (fun _ h_ => h_.1)) (fun _ h_ => h_.1))) hb); have n1_ := Aside0.mk (MR.R_below (by (with_reducible repeat (first | apply MR.R_alloc | apply MR.R_drewN | apply MR.R_drew)); exact (MR.R_mono (MR.R_mono (MR.R_far (p := ⟨gb195, 1, none⟩) (MR.R_far (p := ⟨gb195, 0, none⟩) (MR.R_far (p := ⟨gb194, 1, none⟩) (MR.R_far (p := ⟨gb194, 0, none⟩) (MR.R_types (MR.R_types HO178.out BK194.out (by decide)) BK195.out (by decide)) (fun _ hk => hk.1.2) (.int .i64 t189)) (fun _ hk => hk.1.2) (.int .i64 t190)) (fun _ hk => hk.2) (.int .i64 t192)) (fun _ hk => hk.2) (.int .i64 t193)) (fun _ h_ => h_.1)) (fun _ h_ => h_.1))) hb); have n2_ := Aside0.mk (MR.R_below (by (with_reducible repeat (first | apply MR.R_alloc | apply MR.R_drewN | apply MR.R_drew)); exact (MR.R_mono (MR.R_mono (MR.R_far (p := ⟨gb195, 1, none⟩) (MR.R_far (p := ⟨gb195, 0, none⟩) (MR.R_far (p := ⟨gb194, 1, none⟩) (MR.R_far (p := ⟨gb194, 0, none⟩) (MR.R_types (MR.R_types HO188.out BK194.out (by decide)) BK195.out (by decide)) (fun _ hk => hk.1.2) (.int .i64 t189)) (fun _ hk => hk.1.2) (.int .i64 t190)) (fun _ hk => hk.2) (.int .i64 t192)) (fun _ hk => hk.2) (.int .i64 t193)) (fun _ h_ => h_.1)) (fun _ h_ => h_.1))) hb); have n3_ := Aside0.mk (blk_below (g := gb170) (o := .cells #[.int .i64 a2_0, .int .i64 a2_1] 27 (0, 0)) (by (with_reducible repeat (first | refine blk_drewN ?_ _ | refine blk_drew ?_ | refine blk_alloc ?_ _)); refine blk_far ?_ NB170_195.out _; (with_reducible repeat (first | refine blk_drewN ?_ _ | refine blk_drew ?_ | refine blk_alloc ?_ _)); refine blk_far ?_ NB170_195.out _; (with_reducible repeat (first | refine blk_drewN ?_ _ | refine blk_drew ?_ | refine blk_alloc ?_ _)); refine blk_far ?_ NB170_194.out _; (with_reducible repeat (first | refine blk_drewN ?_ _ | refine blk_drew ?_ | refine blk_alloc ?_ _)); refine blk_far ?_ NB170_194.out _; (with_reducible repeat (first | refine blk_drewN ?_ _ | refine blk_drew ?_ | refine blk_alloc ?_ _)); exact BK170.out) hb); have n4_ := Aside0.mk (blk_below (g := gb175) (o := .cells #[.string ((rd_T38 t171 (ji6)).f0), .int .i64 ((rd_T38 t171 (ji6)).f1), .int .i64 ((rd_T38 t171 (ji6)).f2)] 38 (0, 0)) (by (with_reducible repeat (first | refine blk_drewN ?_ _ | refine blk_drew ?_ | refine blk_alloc ?_ _)); refine blk_far ?_ NB175_195.out _; (with_reducible repeat (first | refine blk_drewN ?_ _ | refine blk_drew ?_ | refine blk_alloc ?_ _)); refine blk_far ?_ NB175_195.out _; (with_reducible repeat (first | refine blk_drewN ?_ _ | refine blk_drew ?_ | refine blk_alloc ?_ _)); refine blk_far ?_ NB175_194.out _; (with_reducible repeat (first | refine blk_drewN ?_ _ | refine blk_drew ?_ | refine blk_alloc ?_ _)); refine blk_far ?_ NB175_194.out _; (with_reducible repeat (first | refine blk_drewN ?_ _ | refine blk_drew ?_ | refine blk_alloc ?_ _)); exact BK175.out) hb); have n5_ := Aside0.mk (blk_below (g := gb184) (o := .cells #[.int .i64 t179, .int .i64 t180] 27 (0, 0)) (by (with_reducible repeat (first | refine blk_drewN ?_ _ | refine blk_drew ?_ | refine blk_alloc ?_ _)); refine blk_far ?_ NB184_195.out _; (with_reducible repeat (first | refine blk_drewN ?_ _ | refine blk_drew ?_ | refine blk_alloc ?_ _)); refine blk_far ?_ NB184_195.out _; (with_reducible repeat (first | refine blk_drewN ?_ _ | refine blk_drew ?_ | refine blk_alloc ?_ _)); refine blk_far ?_ NB184_194.out _; (with_reducible repeat (first | refine blk_drewN ?_ _ | refine blk_drew ?_ | refine blk_alloc ?_ _)); refine blk_far ?_ NB184_194.out _; (with_reducible repeat (first | refine blk_drewN ?_ _ | refine blk_drew ?_ | refine blk_alloc ?_ _)); exact BK184.out) hb); have n6_ := Aside0.mk (blk_below (g := gb185) (o := .cells #[.int .i64 t182, .int .i64 t183] 30 (0, 0)) (by (with_reducible repeat (first | refine blk_drewN ?_ _ | refine blk_drew ?_ | refine blk_alloc ?_ _)); refine blk_far ?_ NB185_195.out _; (with_reducible repeat (first | refine blk_drewN ?_ _ | refine blk_drew ?_ | refine blk_alloc ?_ _)); refine blk_far ?_ NB185_195.out _; (with_reducible repeat (first | refine blk_drewN ?_ _ | refine blk_drew ?_ | refine blk_alloc ?_ _)); refine blk_far ?_ NB185_194.out _; (with_reducible repeat (first | refine blk_drewN ?_ _ | refine blk_drew ?_ | refine blk_alloc ?_ _)); refine blk_far ?_ NB185_194.out _; (with_reducible repeat (first | refine blk_drewN ?_ _ | refine blk_drew ?_ | refine blk_alloc ?_ _)); exact BK185.out) hb); have n7_ := Aside0.mk (blk_below (g := gb194) (o := .cells #[.int .i64 t189, .int .i64 t190] 27 (0, 0)) (by (with_reducible repeat (first | refine blk_drewN ?_ _ | refine blk_drew ?_ | refine blk_alloc ?_ _)); refine blk_far ?_ NB194_195.out _; (with_reducible repeat (first | refine blk_drewN ?_ _ | refine blk_drew ?_ | refine blk_alloc ?_ _)); refine blk_far ?_ NB194_195.out _; (with_reducible repeat (first | refine blk_drewN ?_ _ | refine blk_drew ?_ | refine blk_alloc ?_ _)); refine blk_put (cs := #[.int .i64 t189, .int .i64 0]) ?_ 1 _ rfl; (with_reducible repeat (first | refine blk_drewN ?_ _ | refine blk_drew ?_ | refine blk_alloc ?_ _)); refine blk_put (cs := #[.int .i64 0, .int .i64 0]) ?_ 0 _ rfl; (with_reducible repeat (first | refine blk_drewN ?_ _ | refine blk_drew ?_ | refine blk_alloc ?_ _)); exact BK194.out) hb); have n8_ := Aside0.mk (blk_below (g := gb195) (o := .cells #[.int .i64 t192, .int .i64 t193] 30 (0, 0)) (by (with_reducible repeat (first | refine blk_drewN ?_ _ | refine blk_drew ?_ | refine blk_alloc ?_ _)); refine blk_put (cs := #[.int .i64 t192, .int .i64 0]) ?_ 1 _ rfl; (with_reducible repeat (first | refine blk_drewN ?_ _ | refine blk_drew ?_ | refine blk_alloc ?_ _)); refine blk_put (cs := #[.int .i64 0, .int .i64 0]) ?_ 0 _ rfl; (with_reducible repeat (first | refine blk_drewN ?_ _ | refine blk_drew ?_ | refine blk_alloc ?_ _)); refine blk_far ?_ NB195_194.out _; (with_reducible repeat (first | refine blk_drewN ?_ _ | refine blk_drew ?_ | refine blk_alloc ?_ _)); refine blk_far ?_ NB195_194.out _; (with_reducible repeat (first | refine blk_drewN ?_ _ | refine blk_drew ?_ | refine blk_alloc ?_ _)); exact BK195.out) hb); have n9_ := Aside0.mk (below_step (by repeat (first | (with_reducible first | exact HB.out | apply below_alloc | apply pw_below_drewN | apply below_drew1 | refine below_set ?_ GE170.out | refine below_set ?_ GE175.out | refine below_set ?_ GE184.out | refine below_set ?_ GE185.out | refine below_set ?_ GE194.out | refine below_set ?_ GE195.out) | exact HB.out)) hb); have n10_ := Aside0.mk (hbox); have n11_ := Aside0.mk ((by rw [hg]; exact (below_size (by repeat (first | (with_reducible first | exact HB.out | apply below_alloc | apply pw_below_drewN | apply below_drew1 | refine below_set ?_ GE170.out | refine below_set ?_ GE175.out | refine below_set ?_ GE184.out | refine below_set ?_ GE185.out | refine below_set ?_ GE194.out | refine below_set ?_ GE195.out) | exact HB.out))) : w.heap.size ≤ gb196)); have n12_ := Aside0.mk ((by rw [hg]; exact (below_size (by repeat (first | (with_reducible first | exact HB.out | apply below_alloc | apply pw_below_drewN | apply below_drew1 | refine below_set ?_ GE170.out | refine below_set ?_ GE175.out | refine below_set ?_ GE184.out | refine below_set ?_ GE185.out | refine below_set ?_ GE194.out | refine below_set ?_ GE195.out) | exact HB.out))) : w.heap.size ≤ gb196)); have n13_ := Aside0.mk ((by rw [hg]; exact Nat.ne_of_lt (blk_lt (g := gb170) (o := .cells #[.int .i64 a2_0, .int .i64 a2_1] 27 (0, 0)) (by (with_reducible repeat (first | refine blk_drewN ?_ _ | refine blk_drew ?_ | refine blk_alloc ?_ _)); refine blk_far ?_ NB170_195.out _; (with_reducible repeat (first | refine blk_drewN ?_ _ | refine blk_drew ?_ | refine blk_alloc ?_ _)); refine blk_far ?_ NB170_195.out _; (with_reducible repeat (first | refine blk_drewN ?_ _ | refine blk_drew ?_ | refine blk_alloc ?_ _)); refine blk_far ?_ NB170_194.out _; (with_reducible repeat (first | refine blk_drewN ?_ _ | refine blk_drew ?_ | refine blk_alloc ?_ _)); refine blk_far ?_ NB170_194.out _; (with_reducible repeat (first | refine blk_drewN ?_ _ | refine blk_drew ?_ | refine blk_alloc ?_ _)); exact BK170.out)) : gb170 ≠ gb196)); have n14_ := Aside0.mk ((by rw [hg]; exact Nat.ne_of_gt (blk_lt (g := gb170) (o := .cells #[.int .i64 a2_0, .int .i64 a2_1] 27 (0, 0)) (by (with_reducible repeat (first | refine blk_drewN ?_ _ | refine blk_drew ?_ | refine blk_alloc ?_ _)); refine blk_far ?_ NB170_195.out _; (with_reducible repeat (first | refine blk_drewN ?_ _ | refine blk_drew ?_ | refine blk_alloc ?_ _)); refine blk_far ?_ NB170_195.out _; (with_reducible repeat (first | refine blk_drewN ?_ _ | refine blk_drew ?_ | refine blk_alloc ?_ _)); refine blk_far ?_ NB170_194.out _; (with_reducible repeat (first | refine blk_drewN ?_ _ | refine blk_drew ?_ | refine blk_alloc ?_ _)); refine blk_far ?_ NB170_194.out _; (with_reducible repeat (first | refine blk_drewN ?_ _ | refine blk_drew ?_ | refine blk_alloc ?_ _)); exact BK170.out)) : gb196 ≠ gb170)); have n15_ := Aside0.mk ((by rw [hg]; exact Nat.ne_of_lt (blk_lt (g := gb175) (o := .cells #[.string ((rd_T38 t171 (ji6)).f0), .int .i64 ((rd_T38 t171 (ji6)).f1), .int .i64 ((rd_T38 t171 (ji6)).f2)] 38 (0, 0)) (by (with_reducible repeat (first | refine blk_drewN ?_ _ | refine blk_drew ?_ | refine blk_alloc ?_ _)); refine blk_far ?_ NB175_195.out _; (with_reducible repeat (first | refine blk_drewN ?_ _ | refine blk_drew ?_ | refine blk_alloc ?_ _)); refine blk_far ?_ NB175_195.out _; (with_reducible repeat (first | refine blk_drewN ?_ _ | refine blk_drew ?_ | refine blk_alloc ?_ _)); refine blk_far ?_ NB175_194.out _; (with_reducible repeat (first | refine blk_drewN ?_ _ | refine blk_drew ?_ | refine blk_alloc ?_ _)); refine blk_far ?_ NB175_194.out _; (with_reducible repeat (first | refine blk_drewN ?_ _ | refine blk_drew ?_ | refine blk_alloc ?_ _)); exact BK175.out)) : gb175 ≠ gb196)); have n16_ := Aside0.mk ((by rw [hg]; exact Nat.ne_of_gt (blk_lt (g := gb175) (o := .cells #[.string ((rd_T38 t171 (ji6)).f0), .int .i64 ((rd_T38 t171 (ji6)).f1), .int .i64 ((rd_T38 t171 (ji6)).f2)] 38 (0, 0)) (by (with_reducible repeat (first | refine blk_drewN ?_ _ | refine blk_drew ?_ | refine blk_alloc ?_ _)); refine blk_far ?_ NB175_195.out _; (with_reducible repeat (first | refine blk_drewN ?_ _ | refine blk_drew ?_ | refine blk_alloc ?_ _)); refine blk_far ?_ NB175_195.out _; (with_reducible repeat (first | refine blk_drewN ?_ _ | refine blk_drew ?_ | refine blk_alloc ?_ _)); refine blk_far ?_ NB175_194.out _; (with_reducible repeat (first | refine blk_drewN ?_ _ | refine blk_drew ?_ | refine blk_alloc ?_ _)); refine blk_far ?_ NB175_194.out _; (with_reducible repeat (first | refine blk_drewN ?_ _ | refine blk_drew ?_ | refine blk_alloc ?_ _)); exact BK175.out)) : gb196 ≠ gb175)); have n17_ := Aside0.mk ((by rw [hg]; exact Nat.ne_of_lt (blk_lt (g := gb184) (o := .cells #[.int .i64 t179, .int .i64 t180] 27 (0, 0)) (by (with_reducible repeat (first | refine blk_drewN ?_ _ | refine blk_drew ?_ | refine blk_alloc ?_ _)); refine blk_far ?_ NB184_195.out _; (with_reducible repeat (first | refine blk_drewN ?_ _ | refine blk_drew ?_ | refine blk_alloc ?_ _)); refine blk_far ?_ NB184_195.out _; (with_reducible repeat (first | refine blk_drewN ?_ _ | refine blk_drew ?_ | refine blk_alloc ?_ _)); refine blk_far ?_ NB184_194.out _; (with_reducible repeat (first | refine blk_drewN ?_ _ | refine blk_drew ?_ | refine blk_alloc ?_ _)); refine blk_far ?_ NB184_194.out _; (with_reducible repeat (first | refine blk_drewN ?_ _ | refine blk_drew ?_ | refine blk_alloc ?_ _)); exact BK184.out)) : gb184 ≠ gb196)); have n18_ := Aside0.mk ((by rw [hg]; exact Nat.ne_of_gt (blk_lt (g := gb184) (o := .cells #[.int .i64 t179, .int .i64 t180] 27 (0, 0)) (by (with_reducible repeat (first | refine blk_drewN ?_ _ | refine blk_drew ?_ | refine blk_alloc ?_ _)); refine blk_far ?_ NB184_195.out _; (with_reducible repeat (first | refine blk_drewN ?_ _ | refine blk_drew ?_ | refine blk_alloc ?_ _)); refine blk_far ?_ NB184_195.out _; (with_reducible repeat (first | refine blk_drewN ?_ _ | refine blk_drew ?_ | refine blk_alloc ?_ _)); refine blk_far ?_ NB184_194.out _; (with_reducible repeat (first | refine blk_drewN ?_ _ | refine blk_drew ?_ | refine blk_alloc ?_ _)); refine blk_far ?_ NB184_194.out _; (with_reducible repeat (first | refine blk_drewN ?_ _ | refine blk_drew ?_ | refine blk_alloc ?_ _)); exact BK184.out)) : gb196 ≠ gb184)); have n19_ := Aside0.mk ((by rw [hg]; exact Nat.ne_of_lt (blk_lt (g := gb185) (o := .cells #[.int .i64 t182, .int .i64 t183] 30 (0, 0)) (by (with_reducible repeat (first | refine blk_drewN ?_ _ | refine blk_drew ?_ | refine blk_alloc ?_ _)); refine blk_far ?_ NB185_195.out _; (with_reducible repeat (first | refine blk_drewN ?_ _ | refine blk_drew ?_ | refine blk_alloc ?_ _)); refine blk_far ?_ NB185_195.out _; (with_reducible repeat (first | refine blk_drewN ?_ _ | refine blk_drew ?_ | refine blk_alloc ?_ _)); refine blk_far ?_ NB185_194.out _; (with_reducible repeat (first | refine blk_drewN ?_ _ | refine blk_drew ?_ | refine blk_alloc ?_ _)); refine blk_far ?_ NB185_194.out _; (with_reducible repeat (first | refine blk_drewN ?_ _ | refine blk_drew ?_ | refine blk_alloc ?_ _)); exact BK185.out)) : gb185 ≠ gb196)); have n20_ := Aside0.mk ((by rw [hg]; exact Nat.ne_of_gt (blk_lt (g := gb185) (o := .cells #[.int .i64 t182, .int .i64 t183] 30 (0, 0)) (by (with_reducible repeat (first | refine blk_drewN ?_ _ | refine blk_drew ?_ | refine blk_alloc ?_ _)); refine blk_far ?_ NB185_195.out _; (with_reducible repeat (first | refine blk_drewN ?_ _ | refine blk_drew ?_ | refine blk_alloc ?_ _)); refine blk_far ?_ NB185_195.out _; (with_reducible repeat (first | refine blk_drewN ?_ _ | refine blk_drew ?_ | refine blk_alloc ?_ _)); refine blk_far ?_ NB185_194.out _; (with_reducible repeat (first | refine blk_drewN ?_ _ | refine blk_drew ?_ | refine blk_alloc ?_ _)); refine blk_far ?_ NB185_194.out _; (with_reducible repeat (first | refine blk_drewN ?_ _ | refine blk_drew ?_ | refine blk_alloc ?_ _)); exact BK185.out)) : gb196 ≠ gb185)); have n21_ := Aside0.mk ((by rw [hg]; exact Nat.ne_of_lt (blk_lt (g := gb194) (o := .cells #[.int .i64 t189, .int .i64 t190] 27 (0, 0)) (by (with_reducible repeat (first | refine blk_drewN ?_ _ | refine blk_drew ?_ | refine blk_alloc ?_ _)); refine blk_far ?_ NB194_195.out _; (with_reducible repeat (first | refine blk_drewN ?_ _ | refine blk_drew ?_ | refine blk_alloc ?_ _)); refine blk_far ?_ NB194_195.out _; (with_reducible repeat (first | refine blk_drewN ?_ _ | refine blk_drew ?_ | refine blk_alloc ?_ _)); refine blk_put (cs := #[.int .i64 t189, .int .i64 0]) ?_ 1 _ rfl; (with_reducible repeat (first | refine blk_drewN ?_ _ | refine blk_drew ?_ | refine blk_alloc ?_ _)); refine blk_put (cs := #[.int .i64 0, .int .i64 0]) ?_ 0 _ rfl; (with_reducible repeat (first | refine blk_drewN ?_ _ | refine blk_drew ?_ | refine blk_alloc ?_ _)); exact BK194.out)) : gb194 ≠ gb196)); have n22_ := Aside0.mk ((by rw [hg]; exact Nat.ne_of_gt (blk_lt (g := gb194) (o := .cells #[.int .i64 t189, .int .i64 t190] 27 (0, 0)) (by (with_reducible repeat (first | refine blk_drewN ?_ _ | refine blk_drew ?_ | refine blk_alloc ?_ _)); refine blk_far ?_ NB194_195.out _; (with_reducible repeat (first | refine blk_drewN ?_ _ | refine blk_drew ?_ | refine blk_alloc ?_ _)); refine blk_far ?_ NB194_195.out _; (with_reducible repeat (first | refine blk_drewN ?_ _ | refine blk_drew ?_ | refine blk_alloc ?_ _)); refine blk_put (cs := #[.int .i64 t189, .int .i64 0]) ?_ 1 _ rfl; (with_reducible repeat (first | refine blk_drewN ?_ _ | refine blk_drew ?_ | refine blk_alloc ?_ _)); refine blk_put (cs := #[.int .i64 0, .int .i64 0]) ?_ 0 _ rfl; (with_reducible repeat (first | refine blk_drewN ?_ _ | refine blk_drew ?_ | refine blk_alloc ?_ _)); exact BK194.out)) : gb196 ≠ gb194)); have n23_ := Aside0.mk ((by rw [hg]; exact Nat.ne_of_lt (blk_lt (g := gb195) (o := .cells #[.int .i64 t192, .int .i64 t193] 30 (0, 0)) (by (with_reducible repeat (first | refine blk_drewN ?_ _ | refine blk_drew ?_ | refine blk_alloc ?_ _)); refine blk_put (cs := #[.int .i64 t192, .int .i64 0]) ?_ 1 _ rfl; (with_reducible repeat (first | refine blk_drewN ?_ _ | refine blk_drew ?_ | refine blk_alloc ?_ _)); refine blk_put (cs := #[.int .i64 0, .int .i64 0]) ?_ 0 _ rfl; (with_reducible repeat (first | refine blk_drewN ?_ _ | refine blk_drew ?_ | refine blk_alloc ?_ _)); refine blk_far ?_ NB195_194.out _; (with_reducible repeat (first | refine blk_drewN ?_ _ | refine blk_drew ?_ | refine blk_alloc ?_ _)); refine blk_far ?_ NB195_194.out _; (with_reducible repeat (first | refine blk_drewN ?_ _ | refine blk_drew ?_ | refine blk_alloc ?_ _)); exact BK195.out)) : gb195 ≠ gb196)); have n24_ := Aside0.mk ((by rw [hg]; exact Nat.ne_of_gt (blk_lt (g := gb195) (o := .cells #[.int .i64 t192, .int .i64 t193] 30 (0, 0)) (by (with_reducible repeat (first | refine blk_drewN ?_ _ | refine blk_drew ?_ | refine blk_alloc ?_ _)); refine blk_put (cs := #[.int .i64 t192, .int .i64 0]) ?_ 1 _ rfl; (with_reducible repeat (first | refine blk_drewN ?_ _ | refine blk_drew ?_ | refine blk_alloc ?_ _)); refine blk_put (cs := #[.int .i64 0, .int .i64 0]) ?_ 0 _ rfl; (with_reducible repeat (first | refine blk_drewN ?_ _ | refine blk_drew ?_ | refine blk_alloc ?_ _)); refine blk_far ?_ NB195_194.out _; (with_reducible repeat (first | refine blk_drewN ?_ _ | refine blk_drew ?_ | refine blk_alloc ?_ _)); refine blk_far ?_ NB195_194.out _; (with_reducible repeat (first | refine blk_drewN ?_ _ | refine blk_drew ?_ | refine blk_alloc ?_ _)); exact BK195.out)) : gb196 ≠ gb195)); clear HO173; clear HO178; clear HO188; clear BK170; clear BK175; clear BK184; clear BK185; clear BK194; clear BK195; clear HB; have HO173 := n0_; have HO178 := n1_; have HO188 := n2_; have BK170 := n3_; have BK175 := n4_; have BK184 := n5_; have BK185 := n6_; have BK194 := n7_; have BK195 := n8_; have HB := n9_; have BK196 := n10_; have GW196 := n11_; have GE196 := n12_; have NB170_196 := n13_; have NB196_170 := n14_; have NB175_196 := n15_; have NB196_175 := n16_; have NB184_196 := n17_; have NB196_184 := n18_; have NB185_196 := n19_; have NB196_185 := n20_; have NB194_196 := n21_; have NB196_194 := n22_; have NB195_196 := n23_; have NB196_195 := n24_; clear n0_ n1_ n2_ n3_ n4_ n5_ n6_ n7_ n8_ n9_ n10_ n11_ n12_ n13_ n14_ n15_ n16_ n17_ n18_ n19_ n20_ n21_ n22_ n23_ n24_; clear hb hbox hg; have hnb64 := NB196_170.out; have hnc64 := NB170_196.out; have hnb65 := NB196_175.out; have hnc65 := NB175_196.out; have hnb66 := NB196_184.out; have hnc66 := NB184_196.out; have hnb67 := NB196_185.out; have hnc67 := NB185_196.out; have hnb68 := NB196_194.out; have hnc68 := NB194_196.out; have hnb69 := NB196_195.out; have hnc69 := NB195_196.out; have hcz70_0 : w63.cell? ⟨gb196, 0, none⟩ = some (.int .i64 0) := (blk_cell BK196.out 0).trans rfl; have hcz70_1 : w63.cell? ⟨gb196, 1, none⟩ = some (.int .i64 0) := (blk_cell BK196.out 1).trans rfl; have hfz70_0 := blk_frozen BK196.out 0; have hfz70_1 := blk_frozen BK196.out 1) | ((with_reducible refine gate_callee (f := 22) rfl ?_); refine goesL_ (some 56) rfl rfl Try.func22 (by kernel_rfl) rfl #[] rfl (by (try simp only [List.map_toArray, List.map_cons, List.map_nil]); first | done | rfl | (simp only [List.length_drop, List.length_take]; rfl)) ?_; (with_reducible refine (amanuensislaw14_answers.calls k  true _ A16.out).mono ?_); rintro e w71 ⟨rfl, hb⟩; refine ⟨_, rfl, ?_⟩; have n0_ := Aside0.mk (Kd.R_below (by (with_reducible repeat (first | apply Kd.R_alloc | apply Kd.R_drewN | apply Kd.R_drew)); exact (Kd.R_mono (Kd.R_far (p := ⟨gb196, 1, none⟩) (Kd.R_far (p := ⟨gb196, 0, none⟩) (Kd.R_types HO173.out BK196.out (by decide)) (fun _ hk => hk.2) (.int .i64 5)) (fun _ hk => hk.2) (.int .i64 1)) (fun _ h_ => h_.1))) hb); have n1_ := Aside0.mk (MR.R_below (by (with_reducible repeat (first | apply MR.R_alloc | apply MR.R_drewN | apply MR.R_drew)); exact (MR.R_mono (MR.R_far (p := ⟨gb196, 1, none⟩) (MR.R_far (p := ⟨gb196, 0, none⟩) (MR.R_types HO178.out BK196.out (by decide)) (fun _ hk => hk.2) (.int .i64 5)) (fun _ hk => hk.2) (.int .i64 1)) (fun _ h_ => h_.1))) hb); have n2_ := Aside0.mk (MR.R_below (by (with_reducible repeat (first | apply MR.R_alloc | apply MR.R_drewN | apply MR.R_drew)); exact (MR.R_mono (MR.R_far (p := ⟨gb196, 1, none⟩) (MR.R_far (p := ⟨gb196, 0, none⟩) (MR.R_types HO188.out BK196.out (by decide)) (fun _ hk => hk.2) (.int .i64 5)) (fun _ hk => hk.2) (.int .i64 1)) (fun _ h_ => h_.1))) hb); have n3_ := Aside0.mk (blk_below (g := gb170) (o := .cells #[.int .i64 a2_0, .int .i64 a2_1] 27 (0, 0)) (by (with_reducible repeat (first | refine blk_drewN ?_ _ | refine blk_drew ?_ | refine blk_alloc ?_ _)); refine blk_far ?_ NB170_196.out _; (with_reducible repeat (first | refine blk_drewN ?_ _ | refine blk_drew ?_ | refine blk_alloc ?_ _)); refine blk_far ?_ NB170_196.out _; (with_reducible repeat (first | refine blk_drewN ?_ _ | refine blk_drew ?_ | refine blk_alloc ?_ _)); exact BK170.out) hb); have n4_ := Aside0.mk (blk_below (g := gb175) (o := .cells #[.string ((rd_T38 t171 (ji6)).f0), .int .i64 ((rd_T38 t171 (ji6)).f1), .int .i64 ((rd_T38 t171 (ji6)).f2)] 38 (0, 0)) (by (with_reducible repeat (first | refine blk_drewN ?_ _ | refine blk_drew ?_ | refine blk_alloc ?_ _)); refine blk_far ?_ NB175_196.out _; (with_reducible repeat (first | refine blk_drewN ?_ _ | refine blk_drew ?_ | refine blk_alloc ?_ _)); refine blk_far ?_ NB175_196.out _; (with_reducible repeat (first | refine blk_drewN ?_ _ | refine blk_drew ?_ | refine blk_alloc ?_ _)); exact BK175.out) hb); have n5_ := Aside0.mk (blk_below (g := gb184) (o := .cells #[.int .i64 t179, .int .i64 t180] 27 (0, 0)) (by (with_reducible repeat (first | refine blk_drewN ?_ _ | refine blk_drew ?_ | refine blk_alloc ?_ _)); refine blk_far ?_ NB184_196.out _; (with_reducible repeat (first | refine blk_drewN ?_ _ | refine blk_drew ?_ | refine blk_alloc ?_ _)); refine blk_far ?_ NB184_196.out _; (with_reducible repeat (first | refine blk_drewN ?_ _ | refine blk_drew ?_ | refine blk_alloc ?_ _)); exact BK184.out) hb); have n6_ := Aside0.mk (blk_below (g := gb185) (o := .cells #[.int .i64 t182, .int .i64 t183] 30 (0, 0)) (by (with_reducible repeat (first | refine blk_drewN ?_ _ | refine blk_drew ?_ | refine blk_alloc ?_ _)); refine blk_far ?_ NB185_196.out _; (with_reducible repeat (first | refine blk_drewN ?_ _ | refine blk_drew ?_ | refine blk_alloc ?_ _)); refine blk_far ?_ NB185_196.out _; (with_reducible repeat (first | refine blk_drewN ?_ _ | refine blk_drew ?_ | refine blk_alloc ?_ _)); exact BK185.out) hb); have n7_ := Aside0.mk (blk_below (g := gb194) (o := .cells #[.int .i64 t189, .int .i64 t190] 27 (0, 0)) (by (with_reducible repeat (first | refine blk_drewN ?_ _ | refine blk_drew ?_ | refine blk_alloc ?_ _)); refine blk_far ?_ NB194_196.out _; (with_reducible repeat (first | refine blk_drewN ?_ _ | refine blk_drew ?_ | refine blk_alloc ?_ _)); refine blk_far ?_ NB194_196.out _; (with_reducible repeat (first | refine blk_drewN ?_ _ | refine blk_drew ?_ | refine blk_alloc ?_ _)); exact BK194.out) hb); have n8_ := Aside0.mk (blk_below (g := gb195) (o := .cells #[.int .i64 t192, .int .i64 t193] 30 (0, 0)) (by (with_reducible repeat (first | refine blk_drewN ?_ _ | refine blk_drew ?_ | refine blk_alloc ?_ _)); refine blk_far ?_ NB195_196.out _; (with_reducible repeat (first | refine blk_drewN ?_ _ | refine blk_drew ?_ | refine blk_alloc ?_ _)); refine blk_far ?_ NB195_196.out _; (with_reducible repeat (first | refine blk_drewN ?_ _ | refine blk_drew ?_ | refine blk_alloc ?_ _)); exact BK195.out) hb); have n9_ := Aside0.mk (blk_below (g := gb196) (o := .cells #[.int .i64 5, .int .i64 1] 30 (0, 0)) (by (with_reducible repeat (first | refine blk_drewN ?_ _ | refine blk_drew ?_ | refine blk_alloc ?_ _)); refine blk_put (cs := #[.int .i64 5, .int .i64 0]) ?_ 1 _ rfl; (with_reducible repeat (first | refine blk_drewN ?_ _ | refine blk_drew ?_ | refine blk_alloc ?_ _)); refine blk_put (cs := #[.int .i64 0, .int .i64 0]) ?_ 0 _ rfl; (with_reducible repeat (first | refine blk_drewN ?_ _ | refine blk_drew ?_ | refine blk_alloc ?_ _)); exact BK196.out) hb); have n10_ := Aside0.mk (below_step (by repeat (first | (with_reducible first | exact HB.out | apply below_alloc | apply pw_below_drewN | apply below_drew1 | refine below_set ?_ GE170.out | refine below_set ?_ GE175.out | refine below_set ?_ GE184.out | refine below_set ?_ GE185.out | refine below_set ?_ GE194.out | refine below_set ?_ GE195.out | refine below_set ?_ GE196.out) | exact HB.out)) hb); clear HO173; clear HO178; clear HO188; clear BK170; clear BK175; clear BK184; clear BK185; clear BK194; clear BK195; clear BK196; clear HB; have HO173 := n0_; have HO178 := n1_; have HO188 := n2_; have BK170 := n3_; have BK175 := n4_; have BK184 := n5_; have BK185 := n6_; have BK194 := n7_; have BK195 := n8_; have BK196 := n9_; have HB := n10_; clear n0_ n1_ n2_ n3_ n4_ n5_ n6_ n7_ n8_ n9_ n10_; (try clear hb); (try clear hb2); (try clear hk); (try clear hi); have hnb72 := NB185_184.out; have hnc72 := NB184_185.out; have hcz73_0 : w71.cell? ⟨gb185, 0, none⟩ = some (.int .i64 t182) := (blk_cell BK185.out 0).trans rfl; have hcz73_1 : w71.cell? ⟨gb185, 1, none⟩ = some (.int .i64 t183) := (blk_cell BK185.out 1).trans rfl; have hfz73_0 := blk_frozen BK185.out 0; have hfz73_1 := blk_frozen BK185.out 1; have hcz74_0 : w71.cell? ⟨gb196, 0, none⟩ = some (.int .i64 5) := (blk_cell BK196.out 0).trans rfl; have hcz74_1 : w71.cell? ⟨gb196, 1, none⟩ = some (.int .i64 1) := (blk_cell BK196.out 1).trans rfl; have hfz74_0 := blk_frozen BK196.out 0; have hfz74_1 := blk_frozen BK196.out 1; have hcz75_0 : w71.cell? ⟨gb195, 0, none⟩ = some (.int .i64 t192) := (blk_cell BK195.out 0).trans rfl; have hcz75_1 : w71.cell? ⟨gb195, 1, none⟩ = some (.int .i64 t193) := (blk_cell BK195.out 1).trans rfl; have hfz75_0 := blk_frozen BK195.out 0; have hfz75_1 := blk_frozen BK195.out 1))
                          go_ret
                          exact ⟨by first | rfl | (simp [errW_none, errW_some] <;> rfl) | (simp only [← hji6]; first | rfl | (simp [errW_none, errW_some] <;> rfl)) | (simp [*, errW_none, errW_some] <;> rfl), by repeat (first | (with_reducible first | exact HB.out | apply below_alloc | apply pw_below_drewN | apply below_drew1 | refine below_set ?_ GE170.out | refine below_set ?_ GE175.out | refine below_set ?_ GE184.out | refine below_set ?_ GE185.out | refine below_set ?_ GE194.out | refine below_set ?_ GE195.out | refine below_set ?_ GE196.out) | exact HB.out)⟩
                        · rw [if_neg c20] at H
                          exact absurd (Option.some.inj H) (by rw [hr.out]; decide)
                      · rw [if_neg c19] at H
                        exact absurd (Option.some.inj H) (by rw [hr.out]; decide)
                    · rw [if_neg c18] at H
                      exact absurd (Option.some.inj H) (by rw [hr.out]; decide)
                  · replace c17 := Bool.eq_false_iff.mpr c17
                    subst c17
                    have H1 : (some false) = some r := by rw [if_neg (show ¬ (false = true) by decide)] at H; exact H
                    exact absurd (Option.some.inj H1) (by rw [hr.out]; decide)
                · rw [if_neg c13] at H
                  exact absurd H (by simp)
              · rw [if_neg c12] at H
                exact absurd H (by simp)
            · rw [if_neg c11] at H
              exact absurd H (by simp)
          · exact absurd (by have h_ := hway t171 A4.out; rw [hji6] at h_; exact h_) c10
      · rw [if_neg c8] at H
        exact absurd H (by simp)
    · rw [if_neg c7] at H
      exact absurd H (by simp)

end Go.Proofs.Ytjkgabmhhehhjaa.PEscapeCut
