/- Begun as a text of print.sh, over a translation in which a function has a stand-in; what the stand-in changes is proved by hand. -/
import Derived.Test.YtjkgabmhhehhjaaPSetsApartx0
namespace Go.Proofs.Ytjkgabmhhehhjaa.PSetsApart
open Go.RowKit Go.Proofs.YtjkgabmhhehhjaaW.PrintWords Go.Proofs.YtjkgabmhhehhjaaW.PrintLast Go.Proofs.YtjkgabmhhehhjaaW.PrintMore
attribute [local go_sem] max2_int min2_int max_two min_two max_three min_three max_four min_four   -- for this text's walks alone
set_option linter.unusedVariables false
set_option linter.unusedSimpArgs false

/-! ### amanuensisref08_Escapes: function 15 -/
def amanuensisref08_Escapes.l0 : Nat → List (S38) → List ByteArray → Int → Option ((List (S38)))
  | 0, _, _, _ => none
  | k + 1, x1, x2, x3 => if x3 ≤ 8 then (if 0 ≤ x3 then (if x3 < (x2.length : Int) then (if 2 + (rdOf ByteArray.empty x2 x3).size ≤ 9223372036854775807 then ((some (([(⟨(⟨#[27, 40]⟩ : ByteArray) ++ (rdOf ByteArray.empty x2 x3), 0, x3⟩ : S38), (⟨(⟨#[27, 44]⟩ : ByteArray) ++ (rdOf ByteArray.empty x2 x3), 0, x3⟩ : S38), (⟨(⟨#[27, 41]⟩ : ByteArray) ++ (rdOf ByteArray.empty x2 x3), 1, x3⟩ : S38), (⟨(⟨#[27, 45]⟩ : ByteArray) ++ (rdOf ByteArray.empty x2 x3), 1, x3⟩ : S38)] : List (S38)) : List (S38))).bind fun y139 => (if x1.length + y139.length < 4398046511104 then (amanuensisref08_Escapes.l0 k (x1 ++ y139) x2 (wrap64 (x3 + 1))) else (none))) else (none)) else (none)) else (none)) else ((some (([(⟨(⟨#[27, 36, 49]⟩ : ByteArray), 0, 9⟩ : S38), (⟨(⟨#[27, 36, 44, 49]⟩ : ByteArray), 0, 9⟩ : S38), (⟨(⟨#[27, 36, 41, 49]⟩ : ByteArray), 1, 9⟩ : S38), (⟨(⟨#[27, 36, 45, 49]⟩ : ByteArray), 1, 9⟩ : S38), (⟨(⟨#[27, 98]⟩ : ByteArray), 0, 10⟩ : S38), (⟨(⟨#[27, 112]⟩ : ByteArray), 0, 11⟩ : S38), (⟨(⟨#[27, 103]⟩ : ByteArray), 0, 12⟩ : S38), (⟨(⟨#[27, 115]⟩ : ByteArray), 0, 1⟩ : S38)] : List (S38)) : List (S38))).bind fun y145 => (if x1.length + y145.length < 4398046511104 then (some (x1 ++ y145)) else (none)))
def amanuensisref08_Escapes.f (k : Nat)  : Option ((List (S38))) := amanuensisref08_Escapes.l0 k ([] : List (S38)) (([(⟨#[]⟩ : ByteArray), (⟨#[66]⟩ : ByteArray), (⟨#[33, 69]⟩ : ByteArray), (⟨#[83]⟩ : ByteArray), (⟨#[50]⟩ : ByteArray), (⟨#[51]⟩ : ByteArray), (⟨#[52]⟩ : ByteArray), (⟨#[78]⟩ : ByteArray), (⟨#[81]⟩ : ByteArray)] : List ByteArray)) 1
theorem amanuensisref08_Escapes.mono_l : ∀ k, (∀ y0 y1 y2, LeO (amanuensisref08_Escapes.l0 k y0 y1 y2) (amanuensisref08_Escapes.l0 (k + 1) y0 y1 y2))
  | 0 => fun _ _ _ r h => by simp [amanuensisref08_Escapes.l0] at h
  | k + 1 => by
    have ih0 := amanuensisref08_Escapes.mono_l k
    · intro y0 y1 y2
      unfold amanuensisref08_Escapes.l0
      repeat' first
      | (with_reducible exact ih0 _ _ _)
      | (with_reducible exact LeO.refl _)
      | (with_reducible exact LeO.none _)
      | (with_reducible refine LeO.ite ?_ ?_)
      | (with_reducible refine LeO.bind ?_ (fun _ => ?_))
      | exact ih0 _ _ _
      | exact LeO.none _
      | refine LeO.ite ?_ ?_
      | refine LeO.bind ?_ (fun _ => ?_)
theorem amanuensisref08_Escapes.mono : ∀ k, LeO (amanuensisref08_Escapes.f k ) (amanuensisref08_Escapes.f (k + 1) ) := by
  intro  k
  have ih0 := amanuensisref08_Escapes.mono_l k
  unfold amanuensisref08_Escapes.f
  repeat' first
      | (with_reducible exact ih0 _ _ _)
      | (with_reducible exact LeO.refl _)
      | (with_reducible exact LeO.none _)
      | (with_reducible refine LeO.ite ?_ ?_)
      | (with_reducible refine LeO.bind ?_ (fun _ => ?_))
      | exact ih0 _ _ _
      | exact LeO.none _
      | refine LeO.ite ?_ ?_
      | refine LeO.bind ?_ (fun _ => ?_)
def amanuensisref08_Escapes.T6 : Bool × List (List Nat × List Nat) := (true, [([], []), ([], []), ([], []), ([1, 2], [1, 2]), ([3], [3]), ([4], [4]), ([], []), ([5, 6], [5, 6]), ([], []), ([], []), ([8, 9], [8, 9]), ([10], [10]), ([11], [11]), ([], []), ([12, 13], [12, 13]), ([], []), ([], []), ([15, 16], [15, 16]), ([17], [17]), ([18], [18]), ([], []), ([19, 20], [19, 20]), ([], []), ([], []), ([22, 23], [22, 23]), ([24], [24]), ([25], [25]), ([], []), ([26, 27], [26, 27]), ([7, 14, 21, 28], [7, 14, 21, 28]), ([0, 29], [0, 29]), ([30, 30, 0, 1, 2, 3, 4, 5, 6, 7, 8, 9, 10, 11, 12, 13, 14, 15, 16, 17, 18, 19, 20, 21, 22, 23, 24, 25, 26, 27, 28, 29, 30], [0, 30])])
def amanuensisref08_Escapes.B6 : List Nat := [0, 0, 0, 6, 14, 30, 0, 126, 0, 0, 768, 1792, 3840, 0, 16128, 0, 0, 98304, 229376, 491520, 0, 2064384, 0, 0, 12582912, 29360128, 62914560, 0, 264241152, 536870910, 1073741823, 2147483647]
theorem amanuensisref08_Escapes.tab6 : rtab .any (opsOf Try.f15 6) = amanuensisref08_Escapes.T6 := by kernel_rfl
theorem amanuensisref08_Escapes.bits6 : waitsOk amanuensisref08_Escapes.T6.2 amanuensisref08_Escapes.B6 = true := by kernel_rfl
set_option maxHeartbeats 8000000 in
set_option maxRecDepth 100000 in
theorem amanuensisref08_Escapes.calls (k : Nat)  (r : List (S38)) (w : World) (h : amanuensisref08_Escapes.f k  = some r) :
    Calls Try.prog 15 #[] w fun e w' => ∃ v0_ : Value, e = .returned (v0_) ∧ Kd.R k38 38 w' w.heap.size (fun _ => True) v0_ r ∧ Below w.heap.size w w' := by
  have hu38 := Try.underlying38
  have HB := Aside0.mk (Below.refl w.heap.size w)
  have H : (amanuensisref08_Escapes.l0 k ([] : List (S38)) (([(⟨#[]⟩ : ByteArray), (⟨#[66]⟩ : ByteArray), (⟨#[33, 69]⟩ : ByteArray), (⟨#[83]⟩ : ByteArray), (⟨#[50]⟩ : ByteArray), (⟨#[51]⟩ : ByteArray), (⟨#[52]⟩ : ByteArray), (⟨#[78]⟩ : ByteArray), (⟨#[81]⟩ : ByteArray)] : List ByteArray)) 1) = some r := h
  clear h
  obtain ⟨y132, hy132⟩ : ∃ y_ : List ByteArray, y_ = (([(⟨#[]⟩ : ByteArray), (⟨#[66]⟩ : ByteArray), (⟨#[33, 69]⟩ : ByteArray), (⟨#[83]⟩ : ByteArray), (⟨#[50]⟩ : ByteArray), (⟨#[51]⟩ : ByteArray), (⟨#[52]⟩ : ByteArray), (⟨#[78]⟩ : ByteArray), (⟨#[81]⟩ : ByteArray)] : List ByteArray)) := ⟨_, rfl⟩
  replace H : (amanuensisref08_Escapes.l0 k ([] : List (S38)) y132 1) = some r := by first | (rw [hy132]; with_reducible exact H) | (have H2_ := (Option.bind_some _ _).symm.trans H; rw [hy132]; with_reducible exact H2_) | (have H2_ := (Option.bind_some _ _).symm.trans H; with_reducible exact H2_) | with_reducible exact H | (rw [hy132]; exact H) | exact H
  have Ny132 := Aside0.mk hy132
  clear hy132
  have H' := Aside0.mk H
  clear H
  go_enter Try.func15, Try.ntmps15
  go_wp2_with (first | ((with_reducible refine gate_dst (N := 4) rfl ?_); refine Kd.R_lit Kd.string _ 9 ?hg (N := 4) ?hd (xs := ([(⟨#[]⟩ : ByteArray), (⟨#[66]⟩ : ByteArray), (⟨#[33, 69]⟩ : ByteArray), (⟨#[83]⟩ : ByteArray), (⟨#[50]⟩ : ByteArray), (⟨#[51]⟩ : ByteArray), (⟨#[52]⟩ : ByteArray), (⟨#[78]⟩ : ByteArray), (⟨#[81]⟩ : ByteArray)] : List ByteArray)) (inner := [.string (⟨#[]⟩ : ByteArray), .string (⟨#[66]⟩ : ByteArray), .string (⟨#[33, 69]⟩ : ByteArray), .string (⟨#[83]⟩ : ByteArray), .string (⟨#[50]⟩ : ByteArray), .string (⟨#[51]⟩ : ByteArray), .string (⟨#[52]⟩ : ByteArray), .string (⟨#[78]⟩ : ByteArray), .string (⟨#[81]⟩ : ByteArray)]) (ok := fun _ => True) (okp := fun _ => True) ?hr ?hp (fun _ hk => hk) trivial (Below.refl _ _) (Nat.le_refl _) (by simp) ?_; (case hd => rfl); (case hg => rfl); (case hr => first | (go_simp; done) | (go_simp; rfl)); (case hp => exact (Reps.one (show Kd.M Kd.string _ _ _ (⟨#[]⟩ : ByteArray) [.string (⟨#[]⟩ : ByteArray)] from rfl) (Reps.one (show Kd.M Kd.string _ _ _ (⟨#[66]⟩ : ByteArray) [.string (⟨#[66]⟩ : ByteArray)] from rfl) (Reps.one (show Kd.M Kd.string _ _ _ (⟨#[33, 69]⟩ : ByteArray) [.string (⟨#[33, 69]⟩ : ByteArray)] from rfl) (Reps.one (show Kd.M Kd.string _ _ _ (⟨#[83]⟩ : ByteArray) [.string (⟨#[83]⟩ : ByteArray)] from rfl) (Reps.one (show Kd.M Kd.string _ _ _ (⟨#[50]⟩ : ByteArray) [.string (⟨#[50]⟩ : ByteArray)] from rfl) (Reps.one (show Kd.M Kd.string _ _ _ (⟨#[51]⟩ : ByteArray) [.string (⟨#[51]⟩ : ByteArray)] from rfl) (Reps.one (show Kd.M Kd.string _ _ _ (⟨#[52]⟩ : ByteArray) [.string (⟨#[52]⟩ : ByteArray)] from rfl) (Reps.one (show Kd.M Kd.string _ _ _ (⟨#[78]⟩ : ByteArray) [.string (⟨#[78]⟩ : ByteArray)] from rfl) (Reps.one (show Kd.M Kd.string _ _ _ (⟨#[81]⟩ : ByteArray) [.string (⟨#[81]⟩ : ByteArray)] from rfl) (Reps.none _ _))))))))))); intro v133 w1 ho2 hb hg_ hnew_; clear hg_ hnew_; (first | rw [← Ny132.out] at ho2 | (simp only [Int.reduceToNat] at ho2; rw [← Ny132.out] at ho2)); have n0_ := Aside0.mk (Kd.R_lower ho2 (below_size (by repeat (first | (with_reducible first | exact HB.out | apply below_alloc | apply pw_below_drewN | apply below_drew1) | exact HB.out)))); have n1_ := Aside0.mk (below_step (by repeat (first | (with_reducible first | exact HB.out | apply below_alloc | apply pw_below_drewN | apply below_drew1) | exact HB.out)) hb); clear HB; have HO134 := n0_; have HB := n1_; clear n0_ n1_; clear hb ho2))
  go_loopg [1, 3] k (fun kq v1 v3 w' => ∃ (x1_1 : List (S38)) (x3_1 : Int), v3 = .int .i64 x3_1 ∧ Aside0 (amanuensisref08_Escapes.l0 kq x1_1 y132 x3_1 = some r) ∧ Aside0 (kq ≤ k) ∧ Aside0 (Kd.R k38 38 w' w.heap.size (fun _ => True) v1 x1_1) ∧ Aside0 (Kd.R Kd.string 9 w' w.heap.size (fun _ => True) v133 y132) ∧ Aside0 (Below w.heap.size w w'))
  case atStart => exact ⟨(([] : List (S38))), (1), (by first | rfl | (simp; done) | (simp [*]; done)), H', ⟨Nat.le_refl _⟩, ⟨by first | exact Kd.R_nil _ _ _ _ _ | exact Kd.N_nil _ _ _ _ _ | exact Kd.V_nil _ _ _ _ _ | exact Kd.Q_nil _ _ _ _ _ | exact Kd.S_nil _ _ _ _ _⟩, ⟨by (with_reducible repeat (first | apply Kd.R_alloc | apply Kd.R_drewN | apply Kd.R_drew)); exact HO134.out⟩, ⟨by repeat (first | (with_reducible first | exact HB.out | apply below_alloc | apply pw_below_drewN | apply below_drew1) | exact HB.out)⟩⟩
  case round =>
    clear H'
    try clear c1
    try clear p2
    obtain ⟨x1_1, x3_1, rfl, HA, HK1, HO_1, HO_2, HB⟩ := hrel
    cases gk with
    | zero => exact absurd HA.out (by simp [amanuensisref08_Escapes.l0])
    | succ k1 =>
      have H := HA.out
      clear HA
      simp only [amanuensisref08_Escapes.l0] at H
      by_cases c3 : x3_1 ≤ 8
      · rw [if_pos c3] at H
        have c3b0 : decide (x3_1 ≤ 8) = true := decide_eq_true c3
        clear c3
        by_cases c4 : 0 ≤ x3_1
        · rw [if_pos c4] at H
          have c4b0 : decide (0 ≤ x3_1) = true := decide_eq_true c4
          clear c4
          by_cases c5 : x3_1 < (y132.length : Int)
          · rw [if_pos c5] at H
            have c5b0 : decide (x3_1 < (y132.length : Int)) = true := decide_eq_true c5
            clear c5
            by_cases c6 : 2 + (rdOf ByteArray.empty y132 x3_1).size ≤ 9223372036854775807
            · rw [if_pos c6] at H
              have c6b0 := eq_true c6
              have c6b1 : decide (2 + (rdOf ByteArray.empty y132 x3_1).size ≤ 9223372036854775807) = true := decide_eq_true c6
              try have c6b2 : (9223372036854775807 < 2 + (rdOf ByteArray.empty y132 x3_1).size) = False := eq_false (Nat.not_lt.2 c6)
              obtain ⟨y139, hy139⟩ : ∃ y_ : List (S38), y_ = (([(⟨(⟨#[27, 40]⟩ : ByteArray) ++ (rdOf ByteArray.empty y132 x3_1), 0, x3_1⟩ : S38), (⟨(⟨#[27, 44]⟩ : ByteArray) ++ (rdOf ByteArray.empty y132 x3_1), 0, x3_1⟩ : S38), (⟨(⟨#[27, 41]⟩ : ByteArray) ++ (rdOf ByteArray.empty y132 x3_1), 1, x3_1⟩ : S38), (⟨(⟨#[27, 45]⟩ : ByteArray) ++ (rdOf ByteArray.empty y132 x3_1), 1, x3_1⟩ : S38)] : List (S38))) := ⟨_, rfl⟩
              replace H : (if x1_1.length + y139.length < 4398046511104 then (amanuensisref08_Escapes.l0 k1 (x1_1 ++ y139) y132 (wrap64 (x3_1 + 1))) else (none)) = some r := by first | (rw [hy139]; with_reducible exact H) | (have H2_ := (Option.bind_some _ _).symm.trans H; rw [hy139]; with_reducible exact H2_) | (have H2_ := (Option.bind_some _ _).symm.trans H; with_reducible exact H2_) | with_reducible exact H | (rw [hy139]; exact H) | exact H
              have Ny139 := Aside0.mk hy139
              clear hy139
              by_cases c7 : x1_1.length + y139.length < 4398046511104
              · rw [if_pos c7] at H
                have LMc7 := Aside0.mk c7
                clear c7
                obtain ⟨y142, hy142⟩ : ∃ y_ : List (S38), y_ = (x1_1 ++ y139) := ⟨_, rfl⟩
                replace H : (amanuensisref08_Escapes.l0 k1 y142 y132 (wrap64 (x3_1 + 1))) = some r := by first | (rw [hy142]; with_reducible exact H) | (have H2_ := (Option.bind_some _ _).symm.trans H; rw [hy142]; with_reducible exact H2_) | (have H2_ := (Option.bind_some _ _).symm.trans H; with_reducible exact H2_) | with_reducible exact H | (rw [hy142]; exact H) | exact H
                have Ny142 := Aside0.mk hy142
                clear hy142
                have H' := Aside0.mk H
                clear H
                try go_wp2
                have n0_ := Aside0.mk (Kd.R_drew HO_1.out)
                have n1_ := Aside0.mk (Kd.R_drew HO_2.out)
                have n2_ := Aside0.mk (below_drew1 HB.out)
                clear HO_1
                clear HO_2
                clear HB
                have HO_1 := n0_
                have HO_2 := n1_
                have HB := n2_
                clear n0_ n1_ n2_
                obtain ⟨Ao9, co9, eo9⟩ := Kd.R_slice HO_2.out
                (first | subst eo9 | (injection eo9 with f1_ f2_ f3_; have f4_ := f1_.symm; have f5_ := f3_.symm; clear f1_ f2_ f3_; subst f4_; subst f5_))
                have p135 : 0 ≤ (x3_1 : Int) := of_decide_eq_true (by first | (with_reducible assumption) | assumption)
                have q135 : x3_1 < (y132.length : Int) := of_decide_eq_true (by first | (with_reducible assumption) | assumption)
                obtain ⟨ad135, e135, hx135_0⟩ := Kd.at_string (Kd.R_reads' HO_2.out).2.2 x3_1 p135 q135
                cases e135
                replace p135 := eq_true p135
                replace q135 := eq_true q135
                have p136 : 0 ≤ (x3_1 : Int) := of_decide_eq_true (by first | (with_reducible assumption) | assumption)
                have q136 : x3_1 < (y132.length : Int) := of_decide_eq_true (by first | (with_reducible assumption) | assumption)
                obtain ⟨ad136, e136, hx136_0⟩ := Kd.at_string (Kd.R_reads' HO_2.out).2.2 x3_1 p136 q136
                obtain rfl : ad135 = ad136 := (by injection e136)
                replace p136 := eq_true p136
                replace q136 := eq_true q136
                have p137 : 0 ≤ (x3_1 : Int) := of_decide_eq_true (by first | (with_reducible assumption) | assumption)
                have q137 : x3_1 < (y132.length : Int) := of_decide_eq_true (by first | (with_reducible assumption) | assumption)
                obtain ⟨ad137, e137, hx137_0⟩ := Kd.at_string (Kd.R_reads' HO_2.out).2.2 x3_1 p137 q137
                obtain rfl : ad135 = ad137 := (by injection e137)
                replace p137 := eq_true p137
                replace q137 := eq_true q137
                have p138 : 0 ≤ (x3_1 : Int) := of_decide_eq_true (by first | (with_reducible assumption) | assumption)
                have q138 : x3_1 < (y132.length : Int) := of_decide_eq_true (by first | (with_reducible assumption) | assumption)
                obtain ⟨ad138, e138, hx138_0⟩ := Kd.at_string (Kd.R_reads' HO_2.out).2.2 x3_1 p138 q138
                obtain rfl : ad135 = ad138 := (by injection e138)
                replace p138 := eq_true p138
                replace q138 := eq_true q138
                refine start_ (n := 32) (S := fun w' => w'.cell? (ad135.add (x3_1).toNat) = some (.string (rdOf ByteArray.empty y132 x3_1)) ∧ w'.cell? (ad135.add (x3_1).toNat) = some (.string (rdOf ByteArray.empty y132 x3_1)) ∧ w'.cell? (ad135.add (x3_1).toNat) = some (.string (rdOf ByteArray.empty y132 x3_1)) ∧ w'.cell? (ad135.add (x3_1).toNat) = some (.string (rdOf ByteArray.empty y132 x3_1))) (ds := [30]) #[false, false, false, false, false, false, false, false, false, false, false, false, false, false, false, false, false, false, false, false, false, false, false, false, false, false, false, false, false, false, false, false] (by kernel_rfl) rfl rfl ⟨hx135_0, hx136_0, hx137_0, hx138_0⟩ (fun hHeld => ?_); refine with_tabW amanuensisref08_Escapes.tab6 amanuensisref08_Escapes.bits6 (fun HT_ HW_ => ?_)
                generalize wr.drew = w8 at HO_1 HO_2 HB hx135_0 hx136_0 hx137_0 hx138_0 hHeld ⊢
                refine pure_ (i := 0) (N := some 9) (v := ?_) (a' := ?_) #[true, false, false, false, false, false, false, false, false, false, false, false, false, false, false, false, false, false, false, false, false, false, false, false, false, false, false, false, false, false, false, false] rfl rfl (any_of HT_.out (by kernel_rfl)) (fun _ _ _ h => h) (Or.inl ⟨by rfl, ?_⟩) ?_ ?_
                rotate_left
                · intro w'
                  go_simp
                  with_reducible rfl
                rotate_left
                · simp only [Act.put, List.setIfInBounds_toArray, List.set_cons_zero, List.set_cons_succ, i64_w, i32_w]
                  rfl
                refine pure_ (i := 1) (N := some 10) (v := ?_) (a' := ?_) #[true, true, false, false, false, false, false, false, false, false, false, false, false, false, false, false, false, false, false, false, false, false, false, false, false, false, false, false, false, false, false, false] rfl rfl (any_of HT_.out (by kernel_rfl)) (fun _ _ _ h => h) (Or.inl ⟨by rfl, ?_⟩) ?_ ?_
                rotate_left
                · intro w'
                  go_simp
                  with_reducible rfl
                rotate_left
                · simp only [Act.put, List.setIfInBounds_toArray, List.set_cons_zero, List.set_cons_succ, i64_w, i32_w]
                  rfl
                refine pure_ (i := 2) (N := some 11) (v := ?_) (a' := ?_) #[true, true, true, false, false, false, false, false, false, false, false, false, false, false, false, false, false, false, false, false, false, false, false, false, false, false, false, false, false, false, false, false] rfl rfl (any_of HT_.out (by kernel_rfl)) (fun _ _ _ h => h) (Or.inl ⟨by rfl, ?_⟩) ?_ ?_
                rotate_left
                · intro w'
                  go_simp
                  with_reducible rfl
                rotate_left
                · simp only [Act.put, List.setIfInBounds_toArray, List.set_cons_zero, List.set_cons_succ, i64_w, i32_w]
                  rfl
                refine pure_ (i := 3) (N := some 12) (v := ?_) (a' := ?_) #[true, true, true, true, false, false, false, false, false, false, false, false, false, false, false, false, false, false, false, false, false, false, false, false, false, false, false, false, false, false, false, false] rfl rfl (any_of HT_.out (by kernel_rfl)) (fun _ _ _ h => h) (Or.inl ⟨by rfl, ?_⟩) ?_ ?_
                rotate_left
                · intro w'
                  go_simp
                  with_reducible rfl
                rotate_left
                · simp only [Act.put, List.setIfInBounds_toArray, List.set_cons_zero, List.set_cons_succ, i64_w, i32_w]
                  rfl
                refine pure_ (i := 6) (N := some 15) (v := ?_) (a' := ?_) #[true, true, true, true, false, false, true, false, false, false, false, false, false, false, false, false, false, false, false, false, false, false, false, false, false, false, false, false, false, false, false, false] rfl rfl (any_of HT_.out (by kernel_rfl)) (fun _ _ _ h => h) (Or.inl ⟨by rfl, ?_⟩) ?_ ?_
                rotate_left
                · intro w'
                  go_simp
                  with_reducible rfl
                rotate_left
                · simp only [Act.put, List.setIfInBounds_toArray, List.set_cons_zero, List.set_cons_succ, i64_w, i32_w]
                  rfl
                refine pure_ (i := 8) (N := some 17) (v := ?_) (a' := ?_) #[true, true, true, true, false, false, true, false, true, false, false, false, false, false, false, false, false, false, false, false, false, false, false, false, false, false, false, false, false, false, false, false] rfl rfl (any_of HT_.out (by kernel_rfl)) (fun _ _ _ h => h) (Or.inl ⟨by rfl, ?_⟩) ?_ ?_
                rotate_left
                · intro w'
                  go_simp
                  with_reducible rfl
                rotate_left
                · simp only [Act.put, List.setIfInBounds_toArray, List.set_cons_zero, List.set_cons_succ, i64_w, i32_w]
                  rfl
                refine pure_ (i := 9) (N := some 18) (v := ?_) (a' := ?_) #[true, true, true, true, false, false, true, false, true, true, false, false, false, false, false, false, false, false, false, false, false, false, false, false, false, false, false, false, false, false, false, false] rfl rfl (any_of HT_.out (by kernel_rfl)) (fun _ _ _ h => h) (Or.inl ⟨by rfl, ?_⟩) ?_ ?_
                rotate_left
                · intro w'
                  go_simp
                  with_reducible rfl
                rotate_left
                · simp only [Act.put, List.setIfInBounds_toArray, List.set_cons_zero, List.set_cons_succ, i64_w, i32_w]
                  rfl
                refine pure_ (i := 10) (N := some 19) (v := ?_) (a' := ?_) #[true, true, true, true, false, false, true, false, true, true, true, false, false, false, false, false, false, false, false, false, false, false, false, false, false, false, false, false, false, false, false, false] rfl rfl (any_of HT_.out (by kernel_rfl)) (fun _ _ _ h => h) (Or.inl ⟨by rfl, ?_⟩) ?_ ?_
                rotate_left
                · intro w'
                  go_simp
                  with_reducible rfl
                rotate_left
                · simp only [Act.put, List.setIfInBounds_toArray, List.set_cons_zero, List.set_cons_succ, i64_w, i32_w]
                  rfl
                refine pure_ (i := 13) (N := some 22) (v := ?_) (a' := ?_) #[true, true, true, true, false, false, true, false, true, true, true, false, false, true, false, false, false, false, false, false, false, false, false, false, false, false, false, false, false, false, false, false] rfl rfl (any_of HT_.out (by kernel_rfl)) (fun _ _ _ h => h) (Or.inl ⟨by rfl, ?_⟩) ?_ ?_
                rotate_left
                · intro w'
                  go_simp
                  with_reducible rfl
                rotate_left
                · simp only [Act.put, List.setIfInBounds_toArray, List.set_cons_zero, List.set_cons_succ, i64_w, i32_w]
                  rfl
                refine pure_ (i := 15) (N := some 24) (v := ?_) (a' := ?_) #[true, true, true, true, false, false, true, false, true, true, true, false, false, true, false, true, false, false, false, false, false, false, false, false, false, false, false, false, false, false, false, false] rfl rfl (any_of HT_.out (by kernel_rfl)) (fun _ _ _ h => h) (Or.inl ⟨by rfl, ?_⟩) ?_ ?_
                rotate_left
                · intro w'
                  go_simp
                  with_reducible rfl
                rotate_left
                · simp only [Act.put, List.setIfInBounds_toArray, List.set_cons_zero, List.set_cons_succ, i64_w, i32_w]
                  rfl
                refine pure_ (i := 16) (N := some 25) (v := ?_) (a' := ?_) #[true, true, true, true, false, false, true, false, true, true, true, false, false, true, false, true, true, false, false, false, false, false, false, false, false, false, false, false, false, false, false, false] rfl rfl (any_of HT_.out (by kernel_rfl)) (fun _ _ _ h => h) (Or.inl ⟨by rfl, ?_⟩) ?_ ?_
                rotate_left
                · intro w'
                  go_simp
                  with_reducible rfl
                rotate_left
                · simp only [Act.put, List.setIfInBounds_toArray, List.set_cons_zero, List.set_cons_succ, i64_w, i32_w]
                  rfl
                refine pure_ (i := 17) (N := some 26) (v := ?_) (a' := ?_) #[true, true, true, true, false, false, true, false, true, true, true, false, false, true, false, true, true, true, false, false, false, false, false, false, false, false, false, false, false, false, false, false] rfl rfl (any_of HT_.out (by kernel_rfl)) (fun _ _ _ h => h) (Or.inl ⟨by rfl, ?_⟩) ?_ ?_
                rotate_left
                · intro w'
                  go_simp
                  with_reducible rfl
                rotate_left
                · simp only [Act.put, List.setIfInBounds_toArray, List.set_cons_zero, List.set_cons_succ, i64_w, i32_w]
                  rfl
                refine pure_ (i := 20) (N := some 29) (v := ?_) (a' := ?_) #[true, true, true, true, false, false, true, false, true, true, true, false, false, true, false, true, true, true, false, false, true, false, false, false, false, false, false, false, false, false, false, false] rfl rfl (any_of HT_.out (by kernel_rfl)) (fun _ _ _ h => h) (Or.inl ⟨by rfl, ?_⟩) ?_ ?_
                rotate_left
                · intro w'
                  go_simp
                  with_reducible rfl
                rotate_left
                · simp only [Act.put, List.setIfInBounds_toArray, List.set_cons_zero, List.set_cons_succ, i64_w, i32_w]
                  rfl
                refine pure_ (i := 22) (N := some 31) (v := ?_) (a' := ?_) #[true, true, true, true, false, false, true, false, true, true, true, false, false, true, false, true, true, true, false, false, true, false, true, false, false, false, false, false, false, false, false, false] rfl rfl (any_of HT_.out (by kernel_rfl)) (fun _ _ _ h => h) (Or.inl ⟨by rfl, ?_⟩) ?_ ?_
                rotate_left
                · intro w'
                  go_simp
                  with_reducible rfl
                rotate_left
                · simp only [Act.put, List.setIfInBounds_toArray, List.set_cons_zero, List.set_cons_succ, i64_w, i32_w]
                  rfl
                refine pure_ (i := 23) (N := some 32) (v := ?_) (a' := ?_) #[true, true, true, true, false, false, true, false, true, true, true, false, false, true, false, true, true, true, false, false, true, false, true, true, false, false, false, false, false, false, false, false] rfl rfl (any_of HT_.out (by kernel_rfl)) (fun _ _ _ h => h) (Or.inl ⟨by rfl, ?_⟩) ?_ ?_
                rotate_left
                · intro w'
                  go_simp
                  with_reducible rfl
                rotate_left
                · simp only [Act.put, List.setIfInBounds_toArray, List.set_cons_zero, List.set_cons_succ, i64_w, i32_w]
                  rfl
                refine pure_ (i := 24) (N := some 33) (v := ?_) (a' := ?_) #[true, true, true, true, false, false, true, false, true, true, true, false, false, true, false, true, true, true, false, false, true, false, true, true, true, false, false, false, false, false, false, false] rfl rfl (any_of HT_.out (by kernel_rfl)) (fun _ _ _ h => h) (Or.inl ⟨by rfl, ?_⟩) ?_ ?_
                rotate_left
                · intro w'
                  go_simp
                  with_reducible rfl
                rotate_left
                · simp only [Act.put, List.setIfInBounds_toArray, List.set_cons_zero, List.set_cons_succ, i64_w, i32_w]
                  rfl
                refine pure_ (i := 27) (N := some 36) (v := ?_) (a' := ?_) #[true, true, true, true, false, false, true, false, true, true, true, false, false, true, false, true, true, true, false, false, true, false, true, true, true, false, false, true, false, false, false, false] rfl rfl (any_of HT_.out (by kernel_rfl)) (fun _ _ _ h => h) (Or.inl ⟨by rfl, ?_⟩) ?_ ?_
                rotate_left
                · intro w'
                  go_simp
                  with_reducible rfl
                rotate_left
                · simp only [Act.put, List.setIfInBounds_toArray, List.set_cons_zero, List.set_cons_succ, i64_w, i32_w]
                  rfl
                refine take_ (i := 4) (N := some 13) (v := ?_) (a' := ?_) #[true, true, true, true, true, false, true, false, true, true, true, false, false, true, false, true, true, true, false, false, true, false, true, true, true, false, false, true, false, false, false, false] rfl rfl (take_ofW HT_.out HW_.out (by kernel_rfl)) (fun _ _ _ h => h) (Or.inl ⟨by rfl, ?_⟩) hHeld ?_ ?_
                rotate_left
                · rintro w' ⟨s0, s1, s2, s3⟩
                  go_simp
                  with_reducible rfl
                rotate_left
                · simp only [Act.put, List.setIfInBounds_toArray, List.set_cons_zero, List.set_cons_succ, i64_w, i32_w]
                  rfl
                refine pure_ (i := 5) (N := some 14) (v := ?_) (a' := ?_) #[true, true, true, true, true, true, true, false, true, true, true, false, false, true, false, true, true, true, false, false, true, false, true, true, true, false, false, true, false, false, false, false] rfl rfl (any_of HT_.out (by kernel_rfl)) (fun _ _ _ h => h) (Or.inl ⟨by rfl, ?_⟩) ?_ ?_
                rotate_left
                · intro w'
                  go_simp
                  with_reducible rfl
                rotate_left
                · simp only [Act.put, List.setIfInBounds_toArray, List.set_cons_zero, List.set_cons_succ, i64_w, i32_w]
                  rfl
                refine pure_ (i := 7) (N := some 16) (v := ?_) (a' := ?_) #[true, true, true, true, true, true, true, true, true, true, true, false, false, true, false, true, true, true, false, false, true, false, true, true, true, false, false, true, false, false, false, false] rfl rfl (any_of HT_.out (by kernel_rfl)) (fun _ _ _ h => h) (Or.inl ⟨by rfl, ?_⟩) ?_ ?_
                rotate_left
                · intro w'
                  go_simp
                  with_reducible rfl
                rotate_left
                · simp only [Act.put, List.setIfInBounds_toArray, List.set_cons_zero, List.set_cons_succ, i64_w, i32_w]
                  rfl
                refine take_ (i := 11) (N := some 20) (v := ?_) (a' := ?_) #[true, true, true, true, true, true, true, true, true, true, true, true, false, true, false, true, true, true, false, false, true, false, true, true, true, false, false, true, false, false, false, false] rfl rfl (take_ofW HT_.out HW_.out (by kernel_rfl)) (fun _ _ _ h => h) (Or.inl ⟨by rfl, ?_⟩) hHeld ?_ ?_
                rotate_left
                · rintro w' ⟨s0, s1, s2, s3⟩
                  go_simp
                  with_reducible rfl
                rotate_left
                · simp only [Act.put, List.setIfInBounds_toArray, List.set_cons_zero, List.set_cons_succ, i64_w, i32_w]
                  rfl
                refine pure_ (i := 12) (N := some 21) (v := ?_) (a' := ?_) #[true, true, true, true, true, true, true, true, true, true, true, true, true, true, false, true, true, true, false, false, true, false, true, true, true, false, false, true, false, false, false, false] rfl rfl (any_of HT_.out (by kernel_rfl)) (fun _ _ _ h => h) (Or.inl ⟨by rfl, ?_⟩) ?_ ?_
                rotate_left
                · intro w'
                  go_simp
                  with_reducible rfl
                rotate_left
                · simp only [Act.put, List.setIfInBounds_toArray, List.set_cons_zero, List.set_cons_succ, i64_w, i32_w]
                  rfl
                refine pure_ (i := 14) (N := some 23) (v := ?_) (a' := ?_) #[true, true, true, true, true, true, true, true, true, true, true, true, true, true, true, true, true, true, false, false, true, false, true, true, true, false, false, true, false, false, false, false] rfl rfl (any_of HT_.out (by kernel_rfl)) (fun _ _ _ h => h) (Or.inl ⟨by rfl, ?_⟩) ?_ ?_
                rotate_left
                · intro w'
                  go_simp
                  with_reducible rfl
                rotate_left
                · simp only [Act.put, List.setIfInBounds_toArray, List.set_cons_zero, List.set_cons_succ, i64_w, i32_w]
                  rfl
                refine take_ (i := 18) (N := some 27) (v := ?_) (a' := ?_) #[true, true, true, true, true, true, true, true, true, true, true, true, true, true, true, true, true, true, true, false, true, false, true, true, true, false, false, true, false, false, false, false] rfl rfl (take_ofW HT_.out HW_.out (by kernel_rfl)) (fun _ _ _ h => h) (Or.inl ⟨by rfl, ?_⟩) hHeld ?_ ?_
                rotate_left
                · rintro w' ⟨s0, s1, s2, s3⟩
                  go_simp
                  with_reducible rfl
                rotate_left
                · simp only [Act.put, List.setIfInBounds_toArray, List.set_cons_zero, List.set_cons_succ, i64_w, i32_w]
                  rfl
                refine pure_ (i := 19) (N := some 28) (v := ?_) (a' := ?_) #[true, true, true, true, true, true, true, true, true, true, true, true, true, true, true, true, true, true, true, true, true, false, true, true, true, false, false, true, false, false, false, false] rfl rfl (any_of HT_.out (by kernel_rfl)) (fun _ _ _ h => h) (Or.inl ⟨by rfl, ?_⟩) ?_ ?_
                rotate_left
                · intro w'
                  go_simp
                  with_reducible rfl
                rotate_left
                · simp only [Act.put, List.setIfInBounds_toArray, List.set_cons_zero, List.set_cons_succ, i64_w, i32_w]
                  rfl
                refine pure_ (i := 21) (N := some 30) (v := ?_) (a' := ?_) #[true, true, true, true, true, true, true, true, true, true, true, true, true, true, true, true, true, true, true, true, true, true, true, true, true, false, false, true, false, false, false, false] rfl rfl (any_of HT_.out (by kernel_rfl)) (fun _ _ _ h => h) (Or.inl ⟨by rfl, ?_⟩) ?_ ?_
                rotate_left
                · intro w'
                  go_simp
                  with_reducible rfl
                rotate_left
                · simp only [Act.put, List.setIfInBounds_toArray, List.set_cons_zero, List.set_cons_succ, i64_w, i32_w]
                  rfl
                refine take_ (i := 25) (N := some 34) (v := ?_) (a' := ?_) #[true, true, true, true, true, true, true, true, true, true, true, true, true, true, true, true, true, true, true, true, true, true, true, true, true, true, false, true, false, false, false, false] rfl rfl (take_ofW HT_.out HW_.out (by kernel_rfl)) (fun _ _ _ h => h) (Or.inl ⟨by rfl, ?_⟩) hHeld ?_ ?_
                rotate_left
                · rintro w' ⟨s0, s1, s2, s3⟩
                  go_simp
                  with_reducible rfl
                rotate_left
                · simp only [Act.put, List.setIfInBounds_toArray, List.set_cons_zero, List.set_cons_succ, i64_w, i32_w]
                  rfl
                refine pure_ (i := 26) (N := some 35) (v := ?_) (a' := ?_) #[true, true, true, true, true, true, true, true, true, true, true, true, true, true, true, true, true, true, true, true, true, true, true, true, true, true, true, true, false, false, false, false] rfl rfl (any_of HT_.out (by kernel_rfl)) (fun _ _ _ h => h) (Or.inl ⟨by rfl, ?_⟩) ?_ ?_
                rotate_left
                · intro w'
                  go_simp
                  with_reducible rfl
                rotate_left
                · simp only [Act.put, List.setIfInBounds_toArray, List.set_cons_zero, List.set_cons_succ, i64_w, i32_w]
                  rfl
                refine pure_ (i := 28) (N := some 37) (v := ?_) (a' := ?_) #[true, true, true, true, true, true, true, true, true, true, true, true, true, true, true, true, true, true, true, true, true, true, true, true, true, true, true, true, true, false, false, false] rfl rfl (any_of HT_.out (by kernel_rfl)) (fun _ _ _ h => h) (Or.inl ⟨by rfl, ?_⟩) ?_ ?_
                rotate_left
                · intro w'
                  go_simp
                  with_reducible rfl
                rotate_left
                · simp only [Act.put, List.setIfInBounds_toArray, List.set_cons_zero, List.set_cons_succ, i64_w, i32_w]
                  rfl
                refine one_ (i := 29) (N := some 38) #[true, true, true, true, true, true, true, true, true, true, true, true, true, true, true, true, true, true, true, true, true, true, true, true, true, true, true, true, true, true, false, false] rfl rfl (one_of HT_.out (by kernel_rfl)) (by decide) (fun K hK => ?_)
                refine Kd.R_lit_step k38 _ 38 ?hg (N := 38) ?hd (xs := ([(⟨(⟨#[27, 40]⟩ : ByteArray) ++ (rdOf ByteArray.empty y132 x3_1), 0, x3_1⟩ : S38), (⟨(⟨#[27, 44]⟩ : ByteArray) ++ (rdOf ByteArray.empty y132 x3_1), 0, x3_1⟩ : S38), (⟨(⟨#[27, 41]⟩ : ByteArray) ++ (rdOf ByteArray.empty y132 x3_1), 1, x3_1⟩ : S38), (⟨(⟨#[27, 45]⟩ : ByteArray) ++ (rdOf ByteArray.empty y132 x3_1), 1, x3_1⟩ : S38)] : List (S38))) (inner := [.string ((⟨#[27, 40]⟩ : ByteArray) ++ (rdOf ByteArray.empty y132 x3_1)), .int .i64 0, .int .i64 x3_1, .string ((⟨#[27, 44]⟩ : ByteArray) ++ (rdOf ByteArray.empty y132 x3_1)), .int .i64 0, .int .i64 x3_1, .string ((⟨#[27, 41]⟩ : ByteArray) ++ (rdOf ByteArray.empty y132 x3_1)), .int .i64 1, .int .i64 x3_1, .string ((⟨#[27, 45]⟩ : ByteArray) ++ (rdOf ByteArray.empty y132 x3_1)), .int .i64 1, .int .i64 x3_1]) (ok := fun _ => True) (okp := fun _ => True) ?hr ?hp (fun _ hk => hk) trivial (Below.refl _ _) (Nat.le_refl _) (by simp) ?_; (case hd => rfl); (case hg => rfl); (case hr => first | (go_simp; done) | (go_simp; rfl)); (case hp => exact (Reps.c3 (show Kd.M k38 _ _ _ (⟨(⟨#[27, 40]⟩ : ByteArray) ++ (rdOf ByteArray.empty y132 x3_1), 0, x3_1⟩ : S38) [.string ((⟨#[27, 40]⟩ : ByteArray) ++ (rdOf ByteArray.empty y132 x3_1)), .int .i64 0, .int .i64 x3_1] from (k38_mkM _ _ _ (⟨(⟨#[27, 40]⟩ : ByteArray) ++ (rdOf ByteArray.empty y132 x3_1), 0, x3_1⟩ : S38) )) (Reps.c3 (show Kd.M k38 _ _ _ (⟨(⟨#[27, 44]⟩ : ByteArray) ++ (rdOf ByteArray.empty y132 x3_1), 0, x3_1⟩ : S38) [.string ((⟨#[27, 44]⟩ : ByteArray) ++ (rdOf ByteArray.empty y132 x3_1)), .int .i64 0, .int .i64 x3_1] from (k38_mkM _ _ _ (⟨(⟨#[27, 44]⟩ : ByteArray) ++ (rdOf ByteArray.empty y132 x3_1), 0, x3_1⟩ : S38) )) (Reps.c3 (show Kd.M k38 _ _ _ (⟨(⟨#[27, 41]⟩ : ByteArray) ++ (rdOf ByteArray.empty y132 x3_1), 1, x3_1⟩ : S38) [.string ((⟨#[27, 41]⟩ : ByteArray) ++ (rdOf ByteArray.empty y132 x3_1)), .int .i64 1, .int .i64 x3_1] from (k38_mkM _ _ _ (⟨(⟨#[27, 41]⟩ : ByteArray) ++ (rdOf ByteArray.empty y132 x3_1), 1, x3_1⟩ : S38) )) (Reps.c3 (show Kd.M k38 _ _ _ (⟨(⟨#[27, 45]⟩ : ByteArray) ++ (rdOf ByteArray.empty y132 x3_1), 1, x3_1⟩ : S38) [.string ((⟨#[27, 45]⟩ : ByteArray) ++ (rdOf ByteArray.empty y132 x3_1)), .int .i64 1, .int .i64 x3_1] from (k38_mkM _ _ _ (⟨(⟨#[27, 45]⟩ : ByteArray) ++ (rdOf ByteArray.empty y132 x3_1), 1, x3_1⟩ : S38) )) (Reps.none _ _))))))
                intro v140 w10 ho11 hb hg_ hnew_
                have HS0_ := (hb.cell (World.block_lt_of_cell? _ _ (hHeld.1))).trans (hHeld.1)
                have HS1_ := (hb.cell (World.block_lt_of_cell? _ _ (hHeld.2.1))).trans (hHeld.2.1)
                have HS2_ := (hb.cell (World.block_lt_of_cell? _ _ (hHeld.2.2.1))).trans (hHeld.2.2.1)
                have HS3_ := (hb.cell (World.block_lt_of_cell? _ _ (hHeld.2.2.2))).trans (hHeld.2.2.2)
                clear hg_ hnew_
                (first | rw [← Ny139.out] at ho11 | (simp only [Int.reduceToNat] at ho11; rw [← Ny139.out] at ho11))
                have n0_ := Aside0.mk (Kd.R_elder' (by (with_reducible repeat (first | apply Kd.R_alloc | apply Kd.R_drewN | apply Kd.R_drew)); exact HO_1.out) (Kd.R_base ho11) hb)
                have n1_ := Aside0.mk (Kd.R_below (by (with_reducible repeat (first | apply Kd.R_alloc | apply Kd.R_drewN | apply Kd.R_drew)); exact HO_2.out) hb)
                have n2_ := Aside0.mk (Kd.R_lower (Kd.R_new' ho11 (Kd.R_lt (by (with_reducible repeat (first | apply Kd.R_alloc | apply Kd.R_drewN | apply Kd.R_drew)); exact HO_1.out))) (below_size (by repeat (first | (with_reducible first | exact HB.out | apply below_alloc | apply pw_below_drewN | apply below_drew1) | exact HB.out))))
                have n3_ := Aside0.mk (below_step (by repeat (first | (with_reducible first | exact HB.out | apply below_alloc | apply pw_below_drewN | apply below_drew1) | exact HB.out)) hb)
                clear HO_1
                clear HO_2
                clear HB
                have HO_1 := n0_
                have HO_2 := n1_
                have HO141 := n2_
                have HB := n3_
                clear n0_ n1_ n2_ n3_
                clear hb ho11
                obtain ⟨Ao13, co13, eo13⟩ := Kd.R_slice HO141.out
                (first | subst eo13 | (injection eo13 with f1_ f2_ f3_; have f4_ := f1_.symm; have f5_ := f3_.symm; clear f1_ f2_ f3_; subst f4_; subst f5_))
                refine hK.out _ _ ⟨HS0_, HS1_, HS2_, HS3_⟩ (fun hHeld => ?_)
                clear hK K
                refine norm_ (a' := ?_) ?_ ?_
                rotate_left
                · show Act.put _ (some 38) _ = _
                  simp only [Act.put, List.setIfInBounds_toArray, List.set_cons_zero, List.set_cons_succ, i64_w, i32_w]
                  rfl
                refine last_ (i := 30) (N := some 39) #[true, true, true, true, true, true, true, true, true, true, true, true, true, true, true, true, true, true, true, true, true, true, true, true, true, true, true, true, true, true, true, false] rfl rfl (one_of HT_.out (by kernel_rfl)) (by decide) (fun K hK => ?_)
                refine Kd.R_append_rows_step k38 (w0 := w) w.heap.size (by rfl) (.tmp 9) (.tmp 38) 35 38 (.agg #[(.string ⟨#[]⟩), (.int .i64 0), (.int .i64 0)]) 32 rfl Try.underlying35 info38 rfl (by decide) (by omega) u1 x1_1 y139 _ _ _ (fun k_ => some k_ ≠ (.slice Ao13 y139.length co13 : Value).ownBlock) (fun _ => False) rfl rfl ?aO ?aR (fun _ _ h => h) (fun _ h => h.elim) ?aF ?aB ?aS ?aL ?_
                (case aR => repeat (first | exact (Kd.R_reads' HO141.out).2.2 | (with_reducible refine Kd.C_alloc ?_ _) | (with_reducible refine Kd.C_drewN ?_ _) | (with_reducible refine Kd.C_drew ?_)))
                (case aB => exact (by repeat (first | (with_reducible first | exact HB.out | apply below_alloc | apply pw_below_drewN | apply below_drew1) | exact HB.out)))
                (case aF => exact (fun k_ hk => Kd.fresh' (Kd.R_lt (by (with_reducible repeat (first | apply Kd.R_alloc | apply Kd.R_drewN | apply Kd.R_drew)); exact HO141.out)) k_ hk))
                (case aO => exact (by (with_reducible repeat (first | apply Kd.R_alloc | apply Kd.R_drewN | apply Kd.R_drew)); exact Kd.R_mono HO_1.out (fun _ hk => hk.2)))
                (case aS => exact (below_size (by repeat (first | (with_reducible first | exact HB.out | apply below_alloc | apply pw_below_drewN | apply below_drew1) | exact HB.out))))
                (case aL => have := LMc7.out; omega)
                intro v143 w12 ho hb hg hat
                rw [← Ny142.out] at ho
                have n0_ := Aside0.mk (Kd.R_over' (by (with_reducible repeat (first | apply Kd.R_alloc | apply Kd.R_drewN | apply Kd.R_drew)); exact HO_2.out) (Kd.R_typed (by (with_reducible repeat (first | apply Kd.R_alloc | apply Kd.R_drewN | apply Kd.R_drew)); exact HO_1.out)) (by decide) hg)
                have n1_ := Aside0.mk (Kd.R_after (ok := (fun _ => True)) (by (with_reducible repeat (first | apply Kd.R_alloc | apply Kd.R_drewN | apply Kd.R_drew)); exact HO141.out) hg hat)
                have n2_ := Aside0.mk (hb)
                have n3_ := Aside0.mk (ho)
                clear HO_2
                clear HO141
                clear HB
                clear HO_1
                have HO_2 := n0_
                have HO141 := n1_
                have HB := n2_
                have HO144 := n3_
                clear n0_ n1_ n2_ n3_
                clear ho hb hg hat
                refine hK.out _ _ ?_
                clear hK K
                refine norm_ (a' := ?_) ?_ ?_
                rotate_left
                · show Act.put _ (some 39) _ = _
                  simp only [Act.put, List.setIfInBounds_toArray, List.set_cons_zero, List.set_cons_succ, i64_w, i32_w]
                  rfl
                refine pure_ (i := 31) (N := some 1) (v := ?_) (a' := ?_) #[true, true, true, true, true, true, true, true, true, true, true, true, true, true, true, true, true, true, true, true, true, true, true, true, true, true, true, true, true, true, true, true] rfl rfl (any_of HT_.out (by kernel_rfl)) (fun _ _ _ h => h) (Or.inl ⟨by rfl, ?_⟩) ?_ ?_
                rotate_left
                · intro w'
                  go_simp
                  with_reducible rfl
                rotate_left
                · simp only [Act.put, List.setIfInBounds_toArray, List.set_cons_zero, List.set_cons_succ, i64_w, i32_w]
                  rfl
                refine done_ (done_of HT_.out (by kernel_rfl)) ?_
                try go_wp2
                go_roundg k1
                case measure => have := HK1.out; omega
                case rel => exact ⟨(y142), (wrap64 (x3_1 + 1)), (by first | rfl | (simp; done) | (simp [*]; done)), H', ⟨by have := HK1.out; omega⟩, ⟨by (with_reducible repeat (first | apply Kd.R_alloc | apply Kd.R_drewN | apply Kd.R_drew)); exact Kd.R_mono HO144.out (fun _ hk => trivial)⟩, ⟨by (with_reducible repeat (first | apply Kd.R_alloc | apply Kd.R_drewN | apply Kd.R_drew)); exact HO_2.out⟩, ⟨by repeat (first | (with_reducible first | exact HB.out | apply below_alloc | apply pw_below_drewN | apply below_drew1) | exact HB.out)⟩⟩
              · rw [if_neg c7] at H
                exact absurd H (by simp)
            · rw [if_neg c6] at H
              exact absurd H (by simp)
          · rw [if_neg c5] at H
            exact absurd H (by simp)
        · rw [if_neg c4] at H
          exact absurd H (by simp)
      · rw [if_neg c3] at H
        have c3b0 : decide (x3_1 ≤ 8) = false := decide_eq_false c3
        clear c3
        obtain ⟨y145, hy145⟩ : ∃ y_ : List (S38), y_ = (([(⟨(⟨#[27, 36, 49]⟩ : ByteArray), 0, 9⟩ : S38), (⟨(⟨#[27, 36, 44, 49]⟩ : ByteArray), 0, 9⟩ : S38), (⟨(⟨#[27, 36, 41, 49]⟩ : ByteArray), 1, 9⟩ : S38), (⟨(⟨#[27, 36, 45, 49]⟩ : ByteArray), 1, 9⟩ : S38), (⟨(⟨#[27, 98]⟩ : ByteArray), 0, 10⟩ : S38), (⟨(⟨#[27, 112]⟩ : ByteArray), 0, 11⟩ : S38), (⟨(⟨#[27, 103]⟩ : ByteArray), 0, 12⟩ : S38), (⟨(⟨#[27, 115]⟩ : ByteArray), 0, 1⟩ : S38)] : List (S38))) := ⟨_, rfl⟩
        replace H : (if x1_1.length + y145.length < 4398046511104 then (some (x1_1 ++ y145)) else (none)) = some r := by first | (rw [hy145]; with_reducible exact H) | (have H2_ := (Option.bind_some _ _).symm.trans H; rw [hy145]; with_reducible exact H2_) | (have H2_ := (Option.bind_some _ _).symm.trans H; with_reducible exact H2_) | with_reducible exact H | (rw [hy145]; exact H) | exact H
        have Ny145 := Aside0.mk hy145
        clear hy145
        by_cases c14 : x1_1.length + y145.length < 4398046511104
        · rw [if_pos c14] at H
          have LMc14 := Aside0.mk c14
          clear c14
          obtain ⟨y148, hy148⟩ : ∃ y_ : List (S38), y_ = (x1_1 ++ y145) := ⟨_, rfl⟩
          replace H : (some y148) = some r := by first | (rw [hy148]; with_reducible exact H) | (have H2_ := (Option.bind_some _ _).symm.trans H; rw [hy148]; with_reducible exact H2_) | (have H2_ := (Option.bind_some _ _).symm.trans H; with_reducible exact H2_) | with_reducible exact H | (rw [hy148]; exact H) | exact H
          have Ny148 := Aside0.mk hy148
          clear hy148
          obtain rfl := Option.some.inj H
          go_wp2_with (first | ((with_reducible refine gate_dst (N := 49) rfl ?_); refine Kd.R_lit k38 _ 38 ?hg (N := 49) ?hd (xs := ([(⟨(⟨#[27, 36, 49]⟩ : ByteArray), 0, 9⟩ : S38), (⟨(⟨#[27, 36, 44, 49]⟩ : ByteArray), 0, 9⟩ : S38), (⟨(⟨#[27, 36, 41, 49]⟩ : ByteArray), 1, 9⟩ : S38), (⟨(⟨#[27, 36, 45, 49]⟩ : ByteArray), 1, 9⟩ : S38), (⟨(⟨#[27, 98]⟩ : ByteArray), 0, 10⟩ : S38), (⟨(⟨#[27, 112]⟩ : ByteArray), 0, 11⟩ : S38), (⟨(⟨#[27, 103]⟩ : ByteArray), 0, 12⟩ : S38), (⟨(⟨#[27, 115]⟩ : ByteArray), 0, 1⟩ : S38)] : List (S38))) (inner := [.string (⟨#[27, 36, 49]⟩ : ByteArray), .int .i64 0, .int .i64 9, .string (⟨#[27, 36, 44, 49]⟩ : ByteArray), .int .i64 0, .int .i64 9, .string (⟨#[27, 36, 41, 49]⟩ : ByteArray), .int .i64 1, .int .i64 9, .string (⟨#[27, 36, 45, 49]⟩ : ByteArray), .int .i64 1, .int .i64 9, .string (⟨#[27, 98]⟩ : ByteArray), .int .i64 0, .int .i64 10, .string (⟨#[27, 112]⟩ : ByteArray), .int .i64 0, .int .i64 11, .string (⟨#[27, 103]⟩ : ByteArray), .int .i64 0, .int .i64 12, .string (⟨#[27, 115]⟩ : ByteArray), .int .i64 0, .int .i64 1]) (ok := fun _ => True) (okp := fun _ => True) ?hr ?hp (fun _ hk => hk) trivial (Below.refl _ _) (Nat.le_refl _) (by simp) ?_; (case hd => rfl); (case hg => rfl); (case hr => first | (go_simp; done) | (go_simp; rfl)); (case hp => exact (Reps.c3 (show Kd.M k38 _ _ _ (⟨(⟨#[27, 36, 49]⟩ : ByteArray), 0, 9⟩ : S38) [.string (⟨#[27, 36, 49]⟩ : ByteArray), .int .i64 0, .int .i64 9] from (k38_mkM _ _ _ (⟨(⟨#[27, 36, 49]⟩ : ByteArray), 0, 9⟩ : S38) )) (Reps.c3 (show Kd.M k38 _ _ _ (⟨(⟨#[27, 36, 44, 49]⟩ : ByteArray), 0, 9⟩ : S38) [.string (⟨#[27, 36, 44, 49]⟩ : ByteArray), .int .i64 0, .int .i64 9] from (k38_mkM _ _ _ (⟨(⟨#[27, 36, 44, 49]⟩ : ByteArray), 0, 9⟩ : S38) )) (Reps.c3 (show Kd.M k38 _ _ _ (⟨(⟨#[27, 36, 41, 49]⟩ : ByteArray), 1, 9⟩ : S38) [.string (⟨#[27, 36, 41, 49]⟩ : ByteArray), .int .i64 1, .int .i64 9] from (k38_mkM _ _ _ (⟨(⟨#[27, 36, 41, 49]⟩ : ByteArray), 1, 9⟩ : S38) )) (Reps.c3 (show Kd.M k38 _ _ _ (⟨(⟨#[27, 36, 45, 49]⟩ : ByteArray), 1, 9⟩ : S38) [.string (⟨#[27, 36, 45, 49]⟩ : ByteArray), .int .i64 1, .int .i64 9] from (k38_mkM _ _ _ (⟨(⟨#[27, 36, 45, 49]⟩ : ByteArray), 1, 9⟩ : S38) )) (Reps.c3 (show Kd.M k38 _ _ _ (⟨(⟨#[27, 98]⟩ : ByteArray), 0, 10⟩ : S38) [.string (⟨#[27, 98]⟩ : ByteArray), .int .i64 0, .int .i64 10] from (k38_mkM _ _ _ (⟨(⟨#[27, 98]⟩ : ByteArray), 0, 10⟩ : S38) )) (Reps.c3 (show Kd.M k38 _ _ _ (⟨(⟨#[27, 112]⟩ : ByteArray), 0, 11⟩ : S38) [.string (⟨#[27, 112]⟩ : ByteArray), .int .i64 0, .int .i64 11] from (k38_mkM _ _ _ (⟨(⟨#[27, 112]⟩ : ByteArray), 0, 11⟩ : S38) )) (Reps.c3 (show Kd.M k38 _ _ _ (⟨(⟨#[27, 103]⟩ : ByteArray), 0, 12⟩ : S38) [.string (⟨#[27, 103]⟩ : ByteArray), .int .i64 0, .int .i64 12] from (k38_mkM _ _ _ (⟨(⟨#[27, 103]⟩ : ByteArray), 0, 12⟩ : S38) )) (Reps.c3 (show Kd.M k38 _ _ _ (⟨(⟨#[27, 115]⟩ : ByteArray), 0, 1⟩ : S38) [.string (⟨#[27, 115]⟩ : ByteArray), .int .i64 0, .int .i64 1] from (k38_mkM _ _ _ (⟨(⟨#[27, 115]⟩ : ByteArray), 0, 1⟩ : S38) )) (Reps.none _ _)))))))))); intro v146 w15 ho16 hb hg_ hnew_; clear hg_ hnew_; (first | rw [← Ny145.out] at ho16 | (simp only [Int.reduceToNat] at ho16; rw [← Ny145.out] at ho16)); have n0_ := Aside0.mk (Kd.R_elder' (by (with_reducible repeat (first | apply Kd.R_alloc | apply Kd.R_drewN | apply Kd.R_drew)); exact HO_1.out) (Kd.R_base ho16) hb); have n1_ := Aside0.mk (Kd.R_below (by (with_reducible repeat (first | apply Kd.R_alloc | apply Kd.R_drewN | apply Kd.R_drew)); exact HO_2.out) hb); have n2_ := Aside0.mk (Kd.R_lower (Kd.R_new' ho16 (Kd.R_lt (by (with_reducible repeat (first | apply Kd.R_alloc | apply Kd.R_drewN | apply Kd.R_drew)); exact HO_1.out))) (below_size (by repeat (first | (with_reducible first | exact HB.out | apply below_alloc | apply pw_below_drewN | apply below_drew1) | exact HB.out)))); have n3_ := Aside0.mk (below_step (by repeat (first | (with_reducible first | exact HB.out | apply below_alloc | apply pw_below_drewN | apply below_drew1) | exact HB.out)) hb); clear HO_1; clear HO_2; clear HB; have HO_1 := n0_; have HO_2 := n1_; have HO147 := n2_; have HB := n3_; clear n0_ n1_ n2_ n3_; clear hb ho16; obtain ⟨Ao18, co18, eo18⟩ := Kd.R_slice HO147.out; subst eo18) | ((with_reducible refine gate_builtin (b := .append) (xs := #[.tmp 40, .tmp 49]) rfl ?_); at_builtin; refine Kd.R_append_rows k38 (w0 := w) w.heap.size rfl (.tmp 40) (.tmp 49) 35 38 (.agg #[(.string ⟨#[]⟩), (.int .i64 0), (.int .i64 0)]) 32 rfl Try.underlying35 info38 rfl (by decide) (by omega) u1 x1_1 y145 _ _ _ (fun k_ => some k_ ≠ (.slice Ao18 y145.length co18 : Value).ownBlock) (fun _ => False) rfl rfl ?aO ?aR (fun _ _ h => h) (fun _ h => h.elim) ?aF ?aB ?aS ?aL ?_; (case aR => repeat (first | exact (Kd.R_reads' HO147.out).2.2 | (with_reducible refine Kd.C_alloc ?_ _) | (with_reducible refine Kd.C_drewN ?_ _) | (with_reducible refine Kd.C_drew ?_))); (case aB => exact (by repeat (first | (with_reducible first | exact HB.out | apply below_alloc | apply pw_below_drewN | apply below_drew1) | exact HB.out))); (case aF => exact (fun k_ hk => Kd.fresh' (Kd.R_lt (by (with_reducible repeat (first | apply Kd.R_alloc | apply Kd.R_drewN | apply Kd.R_drew)); exact HO147.out)) k_ hk)); (case aO => exact (by (with_reducible repeat (first | apply Kd.R_alloc | apply Kd.R_drewN | apply Kd.R_drew)); exact Kd.R_mono HO_1.out (fun _ hk => hk.2))); (case aS => exact (below_size (by repeat (first | (with_reducible first | exact HB.out | apply below_alloc | apply pw_below_drewN | apply below_drew1) | exact HB.out)))); (case aL => have := LMc14.out; omega); intro v149 w17 ho hb hg hat; rw [← Ny148.out] at ho; have n0_ := Aside0.mk (Kd.R_over' (by (with_reducible repeat (first | apply Kd.R_alloc | apply Kd.R_drewN | apply Kd.R_drew)); exact HO_2.out) (Kd.R_typed (by (with_reducible repeat (first | apply Kd.R_alloc | apply Kd.R_drewN | apply Kd.R_drew)); exact HO_1.out)) (by decide) hg); have n1_ := Aside0.mk (Kd.R_after (ok := (fun _ => True)) (by (with_reducible repeat (first | apply Kd.R_alloc | apply Kd.R_drewN | apply Kd.R_drew)); exact HO147.out) hg hat); have n2_ := Aside0.mk (hb); have n3_ := Aside0.mk (ho); clear HO_2; clear HO147; clear HB; clear HO_1; have HO_2 := n0_; have HO147 := n1_; have HB := n2_; have HO150 := n3_; clear n0_ n1_ n2_ n3_; clear ho hb hg hat))
          go_ret
          exact ⟨_, by first | rfl | (simp [errW_none, errW_some] <;> rfl) | (simp [*, errW_none, errW_some] <;> rfl), by (with_reducible repeat (first | apply Kd.R_alloc | apply Kd.R_drewN | apply Kd.R_drew)); exact Kd.R_mono HO150.out (fun _ hk => trivial), by repeat (first | (with_reducible first | exact HB.out | apply below_alloc | apply pw_below_drewN | apply below_drew1) | exact HB.out)⟩
        · rw [if_neg c14] at H
          exact absurd H (by simp)

end Go.Proofs.Ytjkgabmhhehhjaa.PSetsApart
