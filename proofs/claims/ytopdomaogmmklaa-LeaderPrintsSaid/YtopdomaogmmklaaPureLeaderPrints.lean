/- The statement LeaderPrints of layer 19, over numbers and strings alone: a leader with other numbers tells these, and is otherwise the same.
   Conditions: none; for every string and every two numbers of the kind int64. -/
import Derived.Test.YtopdomaogmmklaaLeadFacts
import Derived.Test.YtopdomaogmmklaaPLeaderPrintsx1
namespace Go.Proofs.Ytopdomaogmmklaa.Pure
open Go.RowKit Go.Proofs.Ytopdomaogmmklaa.PLeaderParses Go.Proofs.Ytopdomaogmmklaa.PLeaderPrints Go.Proofs.YtopdomaogmmklaaW.PrintWords Go.Proofs.YtopdomaogmmklaaW.PrintLast Go.Proofs.YtopdomaogmmklaaW.PrintMore

/-- A number's five digits. -/
def digs (n : Int) : List Int := [48 + n / 10 / 10 / 10 / 10 % 10, 48 + n / 10 / 10 / 10 % 10, 48 + n / 10 / 10 % 10, 48 + n / 10 % 10, 48 + n % 10]

theorem five_step (k : Nat) (n : Int) (l : List Int) (i : Nat) (h0 : 0 ≤ n) (h1 : n ≤ 99999) (hl : l.length = 5) (hi : i < 5) :
    leader_Five.l0 (k + 1) n l (i : Int) = leader_Five.l0 k (n / 10) (l.set i (48 + n % 10)) ((i : Int) - 1) := by
  rw [leader_Five.l0, if_pos (by omega), if_pos (by omega), if_pos (by omega), Int.tdiv_eq_ediv_of_nonneg h0, Int.tmod_eq_emod_of_nonneg h0, Int.toNat_natCast, w64_in (by omega) (by omega), w64_in (n := 48 + n % 10) (by omega) (by omega), w64_in (n := (i : Int) - 1) (by omega) (by omega), Int.emod_eq_of_lt (a := 48 + n % 10) (by omega) (by omega)]

theorem five_is (k : Nat) (hk : 10 ≤ k) (n : Int) (h0 : 0 ≤ n) (h1 : n ≤ 99999) : leader_Five.f k n = some (strOfNums (digs n)) := by
  obtain ⟨k, rfl⟩ : ∃ m, k = m + 6 := ⟨k - 6, by omega⟩
  unfold leader_Five.f
  rw [if_pos (by decide)]
  have s4 := five_step (k + 5) n (List.replicate 5 0) 4 h0 h1 (by simp) (by omega)
  have s3 := five_step (k + 4) (n / 10) ((List.replicate 5 0).set 4 (48 + n % 10)) 3 (by omega) (by omega) (by simp) (by omega)
  have s2 := five_step (k + 3) (n / 10 / 10) (((List.replicate 5 0).set 4 (48 + n % 10)).set 3 (48 + n / 10 % 10)) 2 (by omega) (by omega) (by simp) (by omega)
  have s1 := five_step (k + 2) (n / 10 / 10 / 10) ((((List.replicate 5 0).set 4 (48 + n % 10)).set 3 (48 + n / 10 % 10)).set 2 (48 + n / 10 / 10 % 10)) 1 (by omega) (by omega) (by simp) (by omega)
  have s0 := five_step (k + 1) (n / 10 / 10 / 10 / 10) (((((List.replicate 5 0).set 4 (48 + n % 10)).set 3 (48 + n / 10 % 10)).set 2 (48 + n / 10 / 10 % 10)).set 1 (48 + n / 10 / 10 / 10 % 10)) 0 (by omega) (by omega) (by simp) (by omega)
  have e4 : (((4 : Nat) : Int) - 1) = ((3 : Nat) : Int) := by omega
  have e3 : (((3 : Nat) : Int) - 1) = ((2 : Nat) : Int) := by omega
  have e2 : (((2 : Nat) : Int) - 1) = ((1 : Nat) : Int) := by omega
  have e1 : (((1 : Nat) : Int) - 1) = ((0 : Nat) : Int) := by omega
  rw [e4] at s4
  rw [e3] at s3
  rw [e2] at s2
  rw [e1] at s1
  refine s4.trans (s3.trans (s2.trans (s1.trans (s0.trans ?_))))
  rw [leader_Five.l0, if_neg (by omega)]
  rfl
theorem digs_len (n : Int) : (digs n).length = 5 := rfl
theorem digs_range (n : Int) : ∀ x ∈ digs n, 48 ≤ x ∧ x ≤ 57 := by
  intro x hx
  simp only [digs, List.mem_cons, List.not_mem_nil, or_false] at hx
  omega
theorem digs_val (n : Int) (h0 : 0 ≤ n) (h1 : n ≤ 99999) : val5 (digs n) = n := by
  unfold val5 digs rd
  simp
  omega

theorem good_more {i c : Int} (h : goodB i c true = true) (hn : ¬ numAt i) : goodB i c false = true := by
  unfold goodB at h ⊢
  rw [if_neg hn] at h ⊢
  exact h
theorem leadL_good (n : Nat) : ∀ (l : List Int) (i : Nat), (∀ j : Nat, i ≤ j → j < i + n → goodB (j : Int) (rd l (j : Int)) false = true) → leadL n l i = leadL 0 l (i + n) := by
  induction n with
  | zero => intro l i _; rfl
  | succ n ih =>
    intro l i h
    have e : leadL (n + 1) l i = leadL n l (i + 1) := by
      have hh := h i (by omega) (by omega)
      simp only [leadL]
      rw [if_pos hh]
    rw [e, ih l (i + 1) (fun j hj hj2 => h j (by omega) (by omega)), show i + 1 + n = i + (n + 1) by omega]

/-- A leader's bytes with other numbers. -/
def put (L : List Int) (a b : Int) : List Int := digs a ++ (L.take 12).drop 5 ++ digs b ++ L.drop 17
set_option linter.unusedSectionVars false
section
variable (L : List Int) (hL : L.length = 24) (a b : Int)
include hL
theorem put_len : (put L a b).length = 24 := by simp [put, digs_len, hL]
theorem put_five : (put L a b).take 5 = digs a := by
  unfold put
  rw [List.append_assoc, List.append_assoc, List.take_left' (digs_len a)]
theorem put_mid : ((put L a b).take 12).drop 5 = (L.take 12).drop 5 := by
  unfold put
  have h12 : (digs a ++ (L.take 12).drop 5).length = 12 := by simp [digs_len, hL]
  rw [List.append_assoc (digs a ++ (L.take 12).drop 5), List.take_left' h12, List.drop_left' (digs_len a)]
theorem put_base : ((put L a b).take 17).drop 12 = digs b := by
  unfold put
  have h12 : (digs a ++ (L.take 12).drop 5).length = 12 := by simp [digs_len, hL]
  have h17 : (digs a ++ (L.take 12).drop 5 ++ digs b).length = 17 := by simp [digs_len, hL]
  rw [List.take_left' h17, List.drop_left' h12]
theorem put_end : (put L a b).drop 17 = L.drop 17 := by
  unfold put
  have h17 : (digs a ++ (L.take 12).drop 5 ++ digs b).length = 17 := by simp [digs_len, hL]
  rw [List.drop_left' h17]
theorem put_rd (j : Nat) (hj : j < 24) (hn : ¬ numAt (j : Int)) : rd (put L a b) (j : Int) = rd L (j : Int) := by
  unfold numAt at hn
  unfold rd
  rw [Int.toNat_natCast, List.getD_eq_getElem?_getD, List.getD_eq_getElem?_getD]
  congr 1
  by_cases h : j < 12
  · have h1 : (put L a b)[j]? = (((put L a b).take 12).drop 5)[j - 5]? := by
      rw [List.getElem?_drop, List.getElem?_take_of_lt (by omega)]
      congr 1
      omega
    rw [h1, put_mid L hL, List.getElem?_drop, List.getElem?_take_of_lt (by omega)]
    congr 1
    omega
  · have h1 : (put L a b)[j]? = ((put L a b).drop 17)[j - 17]? := by
      rw [List.getElem?_drop]
      congr 1
      omega
    rw [h1, put_end L hL, List.getElem?_drop]
    congr 1
    omega
theorem put_num (j : Nat) (hj : j < 24) (hn : numAt (j : Int)) : 48 ≤ rd (put L a b) (j : Int) ∧ rd (put L a b) (j : Int) ≤ 57 := by
  unfold numAt at hn
  have hlen := put_len L hL a b
  by_cases h : j < 5
  · refine digs_range a _ ?_
    rw [← put_five L hL a b, rd_get _ _ (by omega)]
    exact List.mem_take_iff_getElem.mpr ⟨j, by omega, rfl⟩
  · refine digs_range b _ ?_
    rw [← put_base L hL a b, rd_get _ _ (by omega)]
    refine List.mem_iff_getElem.mpr ⟨j - 12, by rw [List.length_drop, List.length_take]; omega, ?_⟩
    rw [List.getElem_drop, List.getElem_take]
    congr 1
    omega
end
theorem put_good (s : ByteArray) (hs : soundB s = true) (a b : Int) : ∀ j : Nat, j < 24 → goodB (j : Int) (rd (put (bytesOf s) a b) (j : Int)) false = true := by
  obtain ⟨h24, hg⟩ := (sound_iff s).mp hs
  have hL : (bytesOf s).length = 24 := by rw [bytesOf_length]; exact h24
  intro j hj
  by_cases hn : numAt (j : Int)
  · have := put_num (bytesOf s) hL a b j hj hn
    unfold goodB
    rw [if_pos hn, Bool.false_or, decide_eq_true this]
  · rw [put_rd (bytesOf s) hL a b j hj hn]
    exact good_more (hg j hj) hn
theorem put_parse (s : ByteArray) (hs : soundB s = true) (a b : Int) (ha : 0 ≤ a ∧ a ≤ 99999) (hb : 0 ≤ b ∧ b ≤ 99999) (k : Nat) (hk : 60 ≤ k) : leader_Parse.f k (put (bytesOf s) a b) = some (a, b, 0, 0) := by
  have hL : (bytesOf s).length = 24 := by rw [bytesOf_length]; exact ((sound_iff s).mp hs).1
  have hp := put_len (bytesOf s) hL a b
  rw [parse_is k hk _ (by omega), hp, leadL_good (min 24 24) _ 0 (fun j _ hj => put_good s hs a b j (by omega)), leadL, if_neg (by omega), put_five _ hL, put_base _ hL, digs_val a ha.1 ha.2, digs_val b hb.1 hb.2]

theorem strOfNums_size (l : List Int) : (strOfNums l).size = l.length := by
  show (l.map fun n => UInt8.ofNat n.toNat).toArray.size = l.length
  simp

theorem print_out (k : Nat) (hk : 1 ≤ k) (s : ByteArray) (a b : Int) : leader_Print.j0 k s a b true = some ([], false) := by
  obtain ⟨k, rfl⟩ : ∃ m, k = m + 1 := ⟨k - 1, by omega⟩
  rw [leader_Print.j0, if_pos rfl]
theorem print_in (k : Nat) (hk : 30 ≤ k) (s : ByteArray) (hs : soundB s = true) (a b : Int) (ha : 0 ≤ a ∧ a ≤ 99999) (hb : 0 ≤ b ∧ b ≤ 99999) :
    leader_Print.j0 k s a b false = some (put (bytesOf s) a b, true) := by
  obtain ⟨k, rfl⟩ : ∃ m, k = m + 1 := ⟨k - 1, by omega⟩
  have h24 : s.size = 24 := ((sound_iff s).mp hs).1
  have hL : (bytesOf s).length = 24 := by rw [bytesOf_length]; exact h24
  have e1 : (s.extract 5 12).size = 7 := by rw [ByteArray.size_extract]; omega
  have e2 : (s.extract 17 s.size).size = 7 := by rw [ByteArray.size_extract]; omega
  have ea : (strOfNums (digs a)).size = 5 := by rw [strOfNums_size]; rfl
  have eb : (strOfNums (digs b)).size = 5 := by rw [strOfNums_size]; rfl
  have e3 : (strOfNums (digs a) ++ s.extract 5 12).size = 12 := by rw [ByteArray.size_append]; omega
  have e4 : (strOfNums (digs a) ++ s.extract 5 12 ++ strOfNums (digs b)).size = 17 := by rw [ByteArray.size_append]; omega
  have e5 : (strOfNums (digs a) ++ s.extract 5 12 ++ strOfNums (digs b) ++ s.extract 17 s.size).size = 24 := by rw [ByteArray.size_append]; omega
  have hbytes : bytesOf (strOfNums (digs a) ++ s.extract 5 12 ++ strOfNums (digs b) ++ s.extract 17 s.size) = put (bytesOf s) a b := by
    unfold put
    rw [bytesOf_append, bytesOf_append, bytesOf_append, bytesOf_extract, bytesOf_extract, bytesOf_strOfNums _ (fun x hx => by have := digs_range a x hx; omega), bytesOf_strOfNums _ (fun x hx => by have := digs_range b x hx; omega), List.take_of_length_le (l := bytesOf s) (i := s.size) (by rw [bytesOf_length]; exact Nat.le_refl _)]
  rw [leader_Print.j0, if_neg (by simp), five_is k (by omega) a ha.1 ha.2]
  simp only [Option.bind_some]
  rw [if_pos (by omega), if_pos (by omega), if_pos (by omega), five_is k (by omega) b hb.1 hb.2]
  simp only [Option.bind_some]
  rw [if_pos (by omega), if_pos (by omega), if_pos (by omega), if_pos (by omega), if_pos (by omega), hbytes]

theorem LeaderPrints : amanuensislaw19_LeaderPrints.Pure := by
  intro s a b _ _ _
  refine ⟨(s.size + 500) + 1, ?_⟩
  unfold amanuensislaw19_LeaderPrints.f
  by_cases hz : (s.size : Int) > 100
  · rw [if_pos hz, answers_is _ (by omega)]
    rfl
  rw [if_neg hz]
  obtain ⟨q, hq⟩ : ∃ q, s.size + 500 = q + 1 := ⟨s.size + 499, by omega⟩
  have out : amanuensislaw19_LeaderPrints.j0 ((s.size + 500) + 1) s a b [] false false = some true := by
    rw [amanuensislaw19_LeaderPrints.j0, answers_is _ (by omega)]
    simp only [Option.bind_some, if_true, bne_self_eq_false]
    rw [hq, amanuensislaw19_LeaderPrints.j1, if_neg (by simp), if_neg (by simp)]
    rfl
  unfold leader_Print.f
  rw [sound_is _ _ (by omega) (by omega), ref_sound_is _ _ (by omega)]
  simp only [Option.bind_some]
  by_cases hs : soundB s = true
  · rw [if_pos hs]
    by_cases h : (0 ≤ a ∧ a ≤ 99999) ∧ (0 ≤ b ∧ b ≤ 99999)
    · obtain ⟨ha, hb⟩ := h
      have h24 : s.size = 24 := ((sound_iff s).mp hs).1
      have hL : (bytesOf s).length = 24 := by rw [bytesOf_length]; exact h24
      have hp := put_len (bytesOf s) hL a b
      rw [if_neg (by omega), if_neg (by omega), if_neg (by omega), decide_eq_false (by omega), print_in _ (by omega) s hs a b ha hb]
      simp only [Option.bind_some]
      rw [if_pos hs, if_pos (by omega), if_pos (by omega), if_pos (by omega), decide_eq_true hb.2, amanuensislaw19_LeaderPrints.j0, answers_is _ (by omega)]
      simp only [Option.bind_some, if_true, bne_self_eq_false]
      rw [hq, amanuensislaw19_LeaderPrints.j1, if_neg (by simp), if_pos rfl, put_parse s hs a b ha hb _ (by omega)]
      simp only [Option.bind_some, if_true]
      have m1 : strOfNums (((put (bytesOf s) a b).take 12).drop 5) = s.extract 5 12 := by
        rw [put_mid _ hL, ← bytesOf_extract, strOfNums_bytesOf]
      have m2 : strOfNums ((put (bytesOf s) a b).drop 17) = s.extract 17 s.size := by
        rw [put_end _ hL]
        have : (bytesOf s).drop 17 = bytesOf (s.extract 17 s.size) := by
          rw [bytesOf_extract, List.take_of_length_le (l := bytesOf s) (i := s.size) (by rw [bytesOf_length]; exact Nat.le_refl _)]
        rw [this, strOfNums_bytesOf]
      rw [if_pos (by omega), if_pos (by omega), if_pos (by omega), m1, if_pos rfl, if_pos (by omega), if_pos (by omega), m2, beq_self_eq_true]
    · -- numbers that may not be
      have e : (if a < 0 then leader_Print.j0 (s.size + 500 + 1) s a b true else if a > 99999 then leader_Print.j0 (s.size + 500 + 1) s a b true else if b < 0 then leader_Print.j0 (s.size + 500 + 1) s a b true else leader_Print.j0 (s.size + 500 + 1) s a b (decide (b > 99999))) = some ([], false) := by
        repeat' split
        all_goals first
          | exact print_out _ (by omega) s a b
          | (rw [decide_eq_true (by omega)]; exact print_out _ (by omega) s a b)
      rw [e]
      simp only [Option.bind_some]
      rw [if_pos hs]
      repeat' split
      all_goals first
        | exact out
        | (rw [decide_eq_false (by omega)]; exact out)
  · rw [if_neg hs, print_out _ (by omega) s a b]
    simp only [Option.bind_some]
    rw [if_neg hs]
    exact out
end Go.Proofs.Ytopdomaogmmklaa.Pure
