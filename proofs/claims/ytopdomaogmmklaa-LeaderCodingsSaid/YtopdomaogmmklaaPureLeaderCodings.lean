/- The statement LeaderCodings of layer 19, over numbers and strings alone: a leader with another coding tells it, and is otherwise the same.
   Conditions: none; for every string and every number of the kind int64. -/
import Derived.Test.YtopdomaogmmklaaLeadFacts
import Derived.Test.YtopdomaogmmklaaPLeaderCodingsx1
namespace Go.Proofs.Ytopdomaogmmklaa.Pure
open Go.RowKit Go.Proofs.Ytopdomaogmmklaa.PLeaderParses Go.Proofs.Ytopdomaogmmklaa.PLeaderCodings Go.Proofs.YtopdomaogmmklaaW.PrintWords Go.Proofs.YtopdomaogmmklaaW.PrintLast Go.Proofs.YtopdomaogmmklaaW.PrintMore

theorem empty_list : ((⟨#[]⟩ : ByteArray).toList == ([] : List UInt8)) = true := by kernel_rfl
/-- The leader with another mark. -/
def marked (s : ByteArray) (m : ByteArray) : ByteArray := ((s.extract 0 9) ++ m) ++ (s.extract 10 s.size)

theorem with_is (k : Nat) (s : ByteArray) (c : Int) (hk : s.size + 60 ≤ k) (hl : s.size ≤ 100) :
    leader_WithCoding.f k s c = some (if soundB s = true ∧ c = 1 then (marked s ⟨#[32]⟩, true) else if soundB s = true ∧ c = 2 then (marked s ⟨#[97]⟩, true) else (⟨#[]⟩, false)) := by
  unfold leader_WithCoding.f
  rw [sound_is k s hk (by omega)]
  simp only [Option.bind_some]
  have e9 : (s.extract 0 9).size ≤ 100 := by rw [ByteArray.size_extract]; omega
  have e10 : (s.extract 10 s.size).size ≤ 100 := by rw [ByteArray.size_extract]; omega
  have em1 : ((s.extract 0 9) ++ (⟨#[97]⟩ : ByteArray)).size ≤ 101 := by rw [ByteArray.size_append]; show _ + 1 ≤ 101; omega
  have em2 : ((s.extract 0 9) ++ (⟨#[32]⟩ : ByteArray)).size ≤ 101 := by rw [ByteArray.size_append]; show _ + 1 ≤ 101; omega
  by_cases h : soundB s = true
  · have h24 : s.size = 24 := ((sound_iff s).mp h).1
    by_cases h2 : c = 2
    · rw [if_pos h2, if_pos h, if_neg (by omega), if_pos (by omega), if_pos (by omega), if_pos (by omega), if_pos (by omega), if_pos (by omega), if_neg (by omega), if_pos ⟨h, h2⟩]
      rfl
    · rw [if_neg h2, if_pos h]
      by_cases h1 : c = 1
      · rw [if_pos h1, if_pos (by omega), if_pos (by omega), if_pos (by omega), if_pos (by omega), if_pos (by omega), if_pos ⟨h, h1⟩]
        rfl
      · rw [if_neg h1, if_neg (by omega), if_neg (by omega)]
  · have n1 : ¬ (soundB s = true ∧ c = 1) := fun hh => h hh.1
    have n2 : ¬ (soundB s = true ∧ c = 2) := fun hh => h hh.1
    rw [if_neg n1, if_neg n2]
    by_cases h2 : c = 2
    · rw [if_pos h2, if_neg h]
    · rw [if_neg h2, if_neg h]

theorem marked_bytes (s : ByteArray) (m : ByteArray) : bytesOf (marked s m) = (bytesOf s).take 9 ++ bytesOf m ++ (bytesOf s).drop 10 := by
  unfold marked
  rw [bytesOf_append, bytesOf_append, bytesOf_extract, bytesOf_extract, List.drop_zero, List.take_of_length_le (l := bytesOf s) (i := s.size) (by rw [bytesOf_length]; exact Nat.le_refl _)]
theorem same_one (k : Nat) (hk : 3 ≤ k) (a : Int) : amanuensisref01_Same.f k [a] [a] = some true := by
  obtain ⟨k, rfl⟩ : ∃ m, k = m + 3 := ⟨k - 3, by omega⟩
  unfold amanuensisref01_Same.f
  rw [if_pos rfl, amanuensisref01_Same.l0, if_pos (by simp), if_pos (by omega), if_pos (by simp), if_pos rfl, show wrap64 (0 + 1) = 1 from by unfold wrap64; omega, amanuensisref01_Same.l0, if_neg (by simp)]

/-- What is told of a leader with another mark. -/
theorem marked_is (s : ByteArray) (hs : soundB s = true) (m : ByteArray) (c : Int) (hm : bytesOf m = [c]) (hc : c = 32 ∨ c = 97) :
    soundB (marked s m) = true ∧ bt (marked s m) 9 = c ∧ (marked s m).extract 0 9 = s.extract 0 9 ∧ (marked s m).extract 10 (marked s m).size = s.extract 10 s.size ∧ bytesOf ((marked s m).extract 9 10) = [c] ∧ (marked s m).size = 24 := by
  obtain ⟨h24, hg⟩ := (sound_iff s).mp hs
  have hL : (bytesOf s).length = 24 := by rw [bytesOf_length]; exact h24
  have hb := marked_bytes s m
  rw [hm] at hb
  have hsz : (marked s m).size = 24 := by
    rw [← bytesOf_length, hb]; simp [hL]
  have hrd : ∀ j : Nat, j < 24 → rd (bytesOf (marked s m)) (j : Int) = if j = 9 then c else rd (bytesOf s) (j : Int) := by
    intro j hj
    unfold rd
    rw [hb, Int.toNat_natCast]
    by_cases h9 : j = 9
    · subst h9
      simp [List.getD_eq_getElem?_getD, hL]
    · rw [if_neg h9]
      simp only [List.getD_eq_getElem?_getD]
      congr 1
      by_cases hlt : j < 9
      · rw [List.append_assoc, List.getElem?_append_left (by simp [hL]; omega), List.getElem?_take_of_lt hlt]
      · rw [List.getElem?_append_right (by simp [hL]; omega), List.getElem?_drop]
        congr 1
        simp [hL]
        omega
  refine ⟨(sound_iff _).mpr ⟨hsz, fun j hj => ?_⟩, ?_, ?_, ?_, ?_, hsz⟩
  · rw [hrd j hj]
    by_cases h9 : j = 9
    · rw [if_pos h9, h9]
      rcases hc with rfl | rfl <;> decide
    · rw [if_neg h9]
      exact hg j hj
  · rw [← rd_bytesOf]
    exact hrd 9 (by omega)
  · apply bytesOf_inj
    rw [bytesOf_extract, bytesOf_extract, hb, List.append_assoc, List.take_append_of_le_length (by simp [hL]), List.take_of_length_le (by simp [hL])]
  · apply bytesOf_inj
    have h10 : ((bytesOf s).take 9 ++ [c]).length = 10 := by simp [hL]
    rw [bytesOf_extract, bytesOf_extract, List.take_of_length_le (l := bytesOf (marked s m)) (by rw [bytesOf_length]; exact Nat.le_refl _), List.take_of_length_le (l := bytesOf s) (by rw [bytesOf_length]; exact Nat.le_refl _), hb, List.drop_left' h10]
  · have h10 : ((bytesOf s).take 9 ++ [c]).length = 10 := by simp [hL]
    have h9 : ((bytesOf s).take 9).length = 9 := by simp [hL]
    rw [bytesOf_extract, hb, List.take_left' h10, List.drop_left' h9]

theorem LeaderCodings : amanuensislaw19_LeaderCodings.Pure := by
  intro s c _ _
  refine ⟨(s.size + 500) + 1, ?_⟩
  unfold amanuensislaw19_LeaderCodings.f
  by_cases hz : (s.size : Int) > 100
  · rw [if_pos hz, answers_is _ (by omega)]
    rfl
  rw [if_neg hz, with_is _ s c (by omega) (by omega), ref_sound_is _ _ (by omega)]
  simp only [Option.bind_some]
  by_cases hs : soundB s = true
  · rw [hs]
    simp only [if_true, true_and]
    obtain ⟨h24, _⟩ := (sound_iff s).mp hs
    -- the two codings
    have good : ∀ (m : ByteArray) (b : Int), bytesOf m = [b] → (b = 32 ∧ c = 1 ∨ b = 97 ∧ c = 2) → amanuensislaw19_LeaderCodings.j0 ((s.size + 500) + 1) s c (marked s m) true true = some true := by
      intro m b hm hbc
      obtain ⟨g0, g1, g2, g3, g4, g5⟩ := marked_is s hs m b hm (by omega)
      rw [amanuensislaw19_LeaderCodings.j0, answers_is _ (by omega)]
      simp only [Option.bind_some, if_true, bne_self_eq_false]
      obtain ⟨q, hq⟩ : ∃ q, s.size + 500 = q + 1 := ⟨s.size + 499, by omega⟩
      rw [hq, amanuensislaw19_LeaderCodings.j1, if_neg (by simp), if_pos rfl, coding_is _ _ (by omega) (by omega), g0, g1]
      simp only [Option.bind_some, if_true]
      have hcd : (if b = 97 then (2 : Int) else 1) = c := by
        rcases hbc with ⟨rfl, rfl⟩ | ⟨rfl, rfl⟩ <;> rfl
      have hw : wrap64 (c - 1) = c - 1 := w64_in (by omega) (by omega)
      have hbt : bt (⟨#[32, 97]⟩ : ByteArray) (c - 1) = b := by
        rcases hbc with ⟨rfl, rfl⟩ | ⟨rfl, rfl⟩ <;> decide
      rw [if_pos hcd, if_pos (by omega), if_pos (by omega), if_pos (by omega), g2, if_pos rfl, if_pos (by omega), if_pos (by omega), g3, if_pos rfl, if_pos (by omega), hw, if_pos (by omega), if_pos (by omega), hbt, g4,
        if_pos (by rw [ByteArray.size_extract]; omega), same_one _ (by omega)]
      rfl
    by_cases h1 : c = 1
    · rw [if_pos h1, if_pos h1]
      exact good _ 32 (by decide) (by omega)
    · rw [if_neg h1, if_neg h1]
      by_cases h2 : c = 2
      · rw [if_pos h2]
        have := good ⟨#[97]⟩ 97 (by decide) (by omega)
        rw [show (c == 2) = true by simp [h2]]
        exact this
      · rw [if_neg h2, show (c == 2) = false by simp [h2], amanuensislaw19_LeaderCodings.j0, answers_is _ (by omega)]
        simp only [Option.bind_some, if_true, bne_self_eq_false]
        obtain ⟨q, hq⟩ : ∃ q, s.size + 500 = q + 1 := ⟨s.size + 499, by omega⟩
        rw [hq, amanuensislaw19_LeaderCodings.j1, if_neg (by simp), if_neg (by simp), empty_list]
  · rw [if_neg hs, if_neg (fun hh => hs hh.1), if_neg (fun hh => hs hh.1), amanuensislaw19_LeaderCodings.j0, answers_is _ (by omega)]
    simp only [Option.bind_some, if_true, bne_self_eq_false]
    obtain ⟨q, hq⟩ : ∃ q, s.size + 500 = q + 1 := ⟨s.size + 499, by omega⟩
    rw [hq, amanuensislaw19_LeaderCodings.j1, if_neg (by simp), if_neg (by simp), empty_list]
end Go.Proofs.Ytopdomaogmmklaa.Pure
