/- Begun as a text of print.sh, over a translation in which a function has a stand-in; what the stand-in changes is proved by hand. -/
import Derived.Test.YtjkaagidifjjaaaPEaccBytesx0
import Derived.Lib.OthersKept
import Derived.LoopTactic
import Derived.Laws.RangeString
import Derived.Laws.RangeAny
namespace Go.Proofs.Ytjkaagidifjjaaa.PEaccBytes
open Go.RowKit Go.Proofs.YtjkaagidifjjaaaW.PrintWords Go.Proofs.YtjkaagidifjjaaaW.PrintLast Go.Proofs.YtjkaagidifjjaaaW.PrintMore
attribute [local go_sem] max2_int min2_int max_two min_two max_three min_three max_four min_four   -- for this text's walks alone
set_option linter.unusedVariables false
set_option linter.unusedSimpArgs false

/-! ### eacc_find: function 9 -/
def eacc_find.l0 : Nat → Int → List (S35) → Int → Int → Option (Int × Bool)
  | 0, _, _, _, _ => none
  | k + 1, x1, x8, x9, x10 => if x10 < x9 then (if 0 ≤ x10 then (if x10 < (x8.length : Int) then (if ((rd_T35 x8 x10).f0) = x1 then (some ((rd_T35 x8 x10).f1, true)) else (eacc_find.l0 k x1 x8 x9 (wrap64 (x10 + 1)))) else (none)) else (none)) else (some (0, false))
def eacc_find.f (k : Nat) (l0 : List (S35)) (a1 : Int) : Option (Int × Bool) := eacc_find.l0 k a1 l0 (l0.length : Int) 0
theorem eacc_find.mono_l : ∀ k, (∀ y0 y1 y2 y3, LeO (eacc_find.l0 k y0 y1 y2 y3) (eacc_find.l0 (k + 1) y0 y1 y2 y3))
  | 0 => fun _ _ _ _ r h => by simp [eacc_find.l0] at h
  | k + 1 => by
    have ih0 := eacc_find.mono_l k
    · intro y0 y1 y2 y3
      unfold eacc_find.l0
      repeat' first
      | (with_reducible exact ih0 _ _ _ _)
      | (with_reducible exact LeO.refl _)
      | (with_reducible exact LeO.none _)
      | (with_reducible refine LeO.ite ?_ ?_)
      | (with_reducible refine LeO.bind ?_ (fun _ => ?_))
      | exact ih0 _ _ _ _
      | exact LeO.none _
      | refine LeO.ite ?_ ?_
      | refine LeO.bind ?_ (fun _ => ?_)
theorem eacc_find.mono : ∀ a0 a1 k, LeO (eacc_find.f k a0 a1) (eacc_find.f (k + 1) a0 a1) := by
  intro a0 a1 k
  have ih0 := eacc_find.mono_l k
  unfold eacc_find.f
  repeat' first
      | (with_reducible exact ih0 _ _ _ _)
      | (with_reducible exact LeO.refl _)
      | (with_reducible exact LeO.none _)
      | (with_reducible refine LeO.ite ?_ ?_)
      | (with_reducible refine LeO.bind ?_ (fun _ => ?_))
      | exact ih0 _ _ _ _
      | exact LeO.none _
      | refine LeO.ite ?_ ?_
      | refine LeO.bind ?_ (fun _ => ?_)
set_option maxHeartbeats 8000000 in
set_option maxRecDepth 100000 in
theorem eacc_find.calls (k : Nat) (A0 : Option Addr) (c0 : Nat) (l0 : List (S35)) (a1 : Int) (r1 : Int) (r2 : Bool) (w : World) (hr0 : Kd.C k35 w A0 l0.length l0) (hc0 : l0.length ≤ c0) (h : eacc_find.f k l0 a1 = some (r1, r2)) :
    Calls Try.prog 9 #[.slice A0 l0.length c0, .int .i64 a1] w fun e w' => e = .returned (.tuple #[.int .i32 r1, .bool r2]) ∧ Below w.heap.size w w' := by
  have hu35 := Try.underlying35
  have HR0 := Aside0.mk hr0
  have HC0 := Aside0.mk hc0
  clear hr0 hc0
  have HB := Aside0.mk (Below.refl w.heap.size w)
  have H : (eacc_find.l0 k a1 l0 (l0.length : Int) 0) = some (r1, r2) := h
  clear h
  have H' := Aside0.mk H
  clear H
  go_enter Try.func9, Try.ntmps9
  go_wp2
  go_loopg [10] k (fun kq v10 w' => ∃ (x10_1 : Int), v10 = .int .i64 x10_1 ∧ Aside0 (eacc_find.l0 kq a1 l0 (l0.length : Int) x10_1 = some (r1, r2)) ∧ Aside0 (kq ≤ k) ∧ Aside0 (Below w.heap.size w w'))
  case atStart => exact ⟨(0), (by first | rfl | (simp; done) | (simp [*]; done)), H', ⟨Nat.le_refl _⟩, ⟨by repeat (first | (with_reducible first | exact HB.out | apply below_alloc | apply pw_below_drewN | apply below_drew1) | exact HB.out)⟩⟩
  case round =>
    clear H'
    try clear p2
    obtain ⟨x10_1, rfl, HA, HK1, HB⟩ := hrel
    cases gk with
    | zero => exact absurd HA.out (by simp [eacc_find.l0])
    | succ k1 =>
      have H := HA.out
      clear HA
      simp only [eacc_find.l0] at H
      by_cases c3 : x10_1 < (l0.length : Int)
      · rw [if_pos c3] at H
        have c3b0 : decide (x10_1 < (l0.length : Int)) = true := decide_eq_true c3
        clear c3
        by_cases c4 : 0 ≤ x10_1
        · rw [if_pos c4] at H
          have c4b0 : decide (0 ≤ x10_1) = true := decide_eq_true c4
          clear c4
          by_cases c5 : x10_1 < (l0.length : Int)
          · rw [if_pos c5] at H
            have c5b0 : decide (x10_1 < (l0.length : Int)) = true := decide_eq_true c5
            clear c5
            by_cases c6 : ((rd_T35 l0 x10_1).f0) = a1
            · rw [if_pos c6] at H
              have c6b0 : (((rd_T35 l0 x10_1).f0) == a1) = true := beq_iff_eq.mpr c6
              have c6b1 : (((rd_T35 l0 x10_1).f0) != a1) = false := bne_eq_false_iff_eq.mpr c6
              clear c6
              simp only [Option.some.injEq, Prod.mk.injEq] at H
              obtain ⟨rfl, rfl⟩ := H
              have p101 : 0 ≤ (x10_1 : Int) := of_decide_eq_true (by first | (with_reducible assumption) | assumption)
              have q101 : x10_1 < (l0.length : Int) := of_decide_eq_true (by first | (with_reducible assumption) | assumption)
              obtain ⟨ad101, e101, hx101_0, hx101_1⟩ := at_T35 HR0.out x10_1 p101 q101
              cases e101
              replace hx101_0 := (HB.out.cell (World.block_lt_of_cell? w _ hx101_0)).trans hx101_0
              replace hx101_1 := (HB.out.cell (World.block_lt_of_cell? w _ hx101_1)).trans hx101_1
              replace p101 := eq_true p101
              replace q101 := eq_true q101
              go_wp2_with (first | ((with_reducible refine gate_dst (N := 7) rfl ?_); refine box_event ?hg (N := 7) ?hd (cs := #[.int .i64 0, .int .i32 0]) (t := 35) ?hr ?_; (case hd => rfl); (case hg => rfl); (case hr => first | (go_simp; done) | (go_simp; rfl)); intro gb102 hg w7 hbox hb; have n0_ := Aside0.mk (below_step (by repeat (first | (with_reducible first | exact HB.out | apply below_alloc | apply pw_below_drewN | apply below_drew1) | exact HB.out)) hb); have n1_ := Aside0.mk (hbox); have n2_ := Aside0.mk ((by rw [hg]; exact (below_size (by repeat (first | (with_reducible first | exact HB.out | apply below_alloc | apply pw_below_drewN | apply below_drew1) | exact HB.out))) : w.heap.size ≤ gb102)); have n3_ := Aside0.mk ((by rw [hg]; exact (below_size (by repeat (first | (with_reducible first | exact HB.out | apply below_alloc | apply pw_below_drewN | apply below_drew1) | exact HB.out))) : w.heap.size ≤ gb102)); clear HB; have HB := n0_; have BK102 := n1_; have GW102 := n2_; have GE102 := n3_; clear n0_ n1_ n2_ n3_; clear hb hbox hg; have hcz8_0 : w7.cell? ⟨gb102, 0, none⟩ = some (.int .i64 0) := (blk_cell BK102.out 0).trans rfl; have hcz8_1 : w7.cell? ⟨gb102, 1, none⟩ = some (.int .i32 0) := (blk_cell BK102.out 1).trans rfl; have hfz8_0 := blk_frozen BK102.out 0; have hfz8_1 := blk_frozen BK102.out 1))
              go_ret2
              exact ⟨by first | rfl | (simp [errW_none, errW_some] <;> rfl) | (simp [*, errW_none, errW_some] <;> rfl), by repeat (first | (with_reducible first | exact HB.out | apply below_alloc | apply pw_below_drewN | apply below_drew1 | refine below_set ?_ GE102.out) | exact HB.out)⟩
            · rw [if_neg c6] at H
              have c6b0 : (((rd_T35 l0 x10_1).f0) == a1) = false := beq_eq_false_iff_ne.mpr c6
              have c6b1 : (((rd_T35 l0 x10_1).f0) != a1) = true := bne_iff_ne.mpr c6
              have H' := Aside0.mk H
              clear H
              have p101 : 0 ≤ (x10_1 : Int) := of_decide_eq_true (by first | (with_reducible assumption) | assumption)
              have q101 : x10_1 < (l0.length : Int) := of_decide_eq_true (by first | (with_reducible assumption) | assumption)
              obtain ⟨ad101, e101, hx101_0, hx101_1⟩ := at_T35 HR0.out x10_1 p101 q101
              cases e101
              replace hx101_0 := (HB.out.cell (World.block_lt_of_cell? w _ hx101_0)).trans hx101_0
              replace hx101_1 := (HB.out.cell (World.block_lt_of_cell? w _ hx101_1)).trans hx101_1
              replace p101 := eq_true p101
              replace q101 := eq_true q101
              go_wp2_with (first | ((with_reducible refine gate_dst (N := 7) rfl ?_); refine box_event ?hg (N := 7) ?hd (cs := #[.int .i64 0, .int .i32 0]) (t := 35) ?hr ?_; (case hd => rfl); (case hg => rfl); (case hr => first | (go_simp; done) | (go_simp; rfl)); intro gb102 hg w9 hbox hb; have n0_ := Aside0.mk (below_step (by repeat (first | (with_reducible first | exact HB.out | apply below_alloc | apply pw_below_drewN | apply below_drew1) | exact HB.out)) hb); have n1_ := Aside0.mk (hbox); have n2_ := Aside0.mk ((by rw [hg]; exact (below_size (by repeat (first | (with_reducible first | exact HB.out | apply below_alloc | apply pw_below_drewN | apply below_drew1) | exact HB.out))) : w.heap.size ≤ gb102)); have n3_ := Aside0.mk ((by rw [hg]; exact (below_size (by repeat (first | (with_reducible first | exact HB.out | apply below_alloc | apply pw_below_drewN | apply below_drew1) | exact HB.out))) : w.heap.size ≤ gb102)); clear HB; have HB := n0_; have BK102 := n1_; have GW102 := n2_; have GE102 := n3_; clear n0_ n1_ n2_ n3_; clear hb hbox hg; have hcz10_0 : w9.cell? ⟨gb102, 0, none⟩ = some (.int .i64 0) := (blk_cell BK102.out 0).trans rfl; have hcz10_1 : w9.cell? ⟨gb102, 1, none⟩ = some (.int .i32 0) := (blk_cell BK102.out 1).trans rfl; have hfz10_0 := blk_frozen BK102.out 0; have hfz10_1 := blk_frozen BK102.out 1))
              go_roundg k1
              case measure => have := HK1.out; omega
              case rel => exact ⟨(wrap64 (x10_1 + 1)), (by first | rfl | (simp; done) | (simp [*]; done)), H', ⟨by have := HK1.out; omega⟩, ⟨by repeat (first | (with_reducible first | exact HB.out | apply below_alloc | apply pw_below_drewN | apply below_drew1 | refine below_set ?_ GE102.out) | exact HB.out)⟩⟩
          · rw [if_neg c5] at H
            exact absurd H (by simp)
        · rw [if_neg c4] at H
          exact absurd H (by simp)
      · rw [if_neg c3] at H
        have c3b0 : decide (x10_1 < (l0.length : Int)) = false := decide_eq_false c3
        clear c3
        simp only [Option.some.injEq, Prod.mk.injEq] at H
        obtain ⟨rfl, rfl⟩ := H
        go_wp2
        go_ret2
        exact ⟨by first | rfl | (simp [errW_none, errW_some] <;> rfl) | (simp [*, errW_none, errW_some] <;> rfl), by repeat (first | (with_reducible first | exact HB.out | apply below_alloc | apply pw_below_drewN | apply below_drew1) | exact HB.out)⟩

/-! ### eacc_signs: function 10 -/
def eacc_signs.f  : Option ((List (S35))) := some (([(⟨2171681, 12288⟩ : S35), (⟨2171688, 12289⟩ : S35), (⟨2171689, 12290⟩ : S35), (⟨2171690, 12300⟩ : S35), (⟨2171691, 12301⟩ : S35), (⟨6891052, 12540⟩ : S35)] : List (S35)))
set_option maxHeartbeats 8000000 in
set_option maxRecDepth 100000 in
theorem eacc_signs.calls  (r : List (S35)) (w : World) (h : eacc_signs.f  = some r) :
    Calls Try.prog 10 #[] w fun e w' => ∃ v0_ : Value, e = .returned (v0_) ∧ Kd.R k35 35 w' w.heap.size (fun _ => True) v0_ r ∧ Below w.heap.size w w' := by
  have hu35 := Try.underlying35
  have HB := Aside0.mk (Below.refl w.heap.size w)
  have H : (some (([(⟨2171681, 12288⟩ : S35), (⟨2171688, 12289⟩ : S35), (⟨2171689, 12290⟩ : S35), (⟨2171690, 12300⟩ : S35), (⟨2171691, 12301⟩ : S35), (⟨6891052, 12540⟩ : S35)] : List (S35)))) = some r := h
  clear h
  obtain ⟨y103, hy103⟩ : ∃ y_ : List (S35), y_ = (([(⟨2171681, 12288⟩ : S35), (⟨2171688, 12289⟩ : S35), (⟨2171689, 12290⟩ : S35), (⟨2171690, 12300⟩ : S35), (⟨2171691, 12301⟩ : S35), (⟨6891052, 12540⟩ : S35)] : List (S35))) := ⟨_, rfl⟩
  replace H : (some y103) = some r := by first | (rw [hy103]; with_reducible exact H) | (have H2_ := (Option.bind_some _ _).symm.trans H; rw [hy103]; with_reducible exact H2_) | (have H2_ := (Option.bind_some _ _).symm.trans H; with_reducible exact H2_) | with_reducible exact H | (rw [hy103]; exact H) | exact H
  have Ny103 := Aside0.mk hy103
  clear hy103
  obtain rfl := Option.some.inj H
  go_enter Try.func10, Try.ntmps10
  go_wp2_with (first | ((with_reducible refine gate_dst (N := 7) rfl ?_); refine Kd.R_lit k35 _ 35 ?hg (N := 7) ?hd (xs := ([(⟨2171681, 12288⟩ : S35), (⟨2171688, 12289⟩ : S35), (⟨2171689, 12290⟩ : S35), (⟨2171690, 12300⟩ : S35), (⟨2171691, 12301⟩ : S35), (⟨6891052, 12540⟩ : S35)] : List (S35))) (inner := [.int .i64 2171681, .int .i32 12288, .int .i64 2171688, .int .i32 12289, .int .i64 2171689, .int .i32 12290, .int .i64 2171690, .int .i32 12300, .int .i64 2171691, .int .i32 12301, .int .i64 6891052, .int .i32 12540]) (ok := fun _ => True) (okp := fun _ => True) ?hr ?hp (fun _ hk => hk) trivial (Below.refl _ _) (Nat.le_refl _) (by simp) ?_; (case hd => rfl); (case hg => rfl); (case hr => first | (go_simp; done) | (go_simp; rfl)); (case hp => exact (Reps.c2 (show Kd.M k35 _ _ _ (⟨2171681, 12288⟩ : S35) [.int .i64 2171681, .int .i32 12288] from (k35_mkM _ _ _ (⟨2171681, 12288⟩ : S35) )) (Reps.c2 (show Kd.M k35 _ _ _ (⟨2171688, 12289⟩ : S35) [.int .i64 2171688, .int .i32 12289] from (k35_mkM _ _ _ (⟨2171688, 12289⟩ : S35) )) (Reps.c2 (show Kd.M k35 _ _ _ (⟨2171689, 12290⟩ : S35) [.int .i64 2171689, .int .i32 12290] from (k35_mkM _ _ _ (⟨2171689, 12290⟩ : S35) )) (Reps.c2 (show Kd.M k35 _ _ _ (⟨2171690, 12300⟩ : S35) [.int .i64 2171690, .int .i32 12300] from (k35_mkM _ _ _ (⟨2171690, 12300⟩ : S35) )) (Reps.c2 (show Kd.M k35 _ _ _ (⟨2171691, 12301⟩ : S35) [.int .i64 2171691, .int .i32 12301] from (k35_mkM _ _ _ (⟨2171691, 12301⟩ : S35) )) (Reps.c2 (show Kd.M k35 _ _ _ (⟨6891052, 12540⟩ : S35) [.int .i64 6891052, .int .i32 12540] from (k35_mkM _ _ _ (⟨6891052, 12540⟩ : S35) )) (Reps.none _ _)))))))); intro v104 w1 ho2 hb hg_ hnew_; clear hg_ hnew_; (first | rw [← Ny103.out] at ho2 | (simp only [Int.reduceToNat] at ho2; rw [← Ny103.out] at ho2)); have n0_ := Aside0.mk (Kd.R_lower ho2 (below_size (by repeat (first | (with_reducible first | exact HB.out | apply below_alloc | apply pw_below_drewN | apply below_drew1) | exact HB.out)))); have n1_ := Aside0.mk (below_step (by repeat (first | (with_reducible first | exact HB.out | apply below_alloc | apply pw_below_drewN | apply below_drew1) | exact HB.out)) hb); clear HB; have HO105 := n0_; have HB := n1_; clear n0_ n1_; clear hb ho2))
  go_ret
  exact ⟨_, by first | rfl | (simp [errW_none, errW_some] <;> rfl) | (simp [*, errW_none, errW_some] <;> rfl), by (with_reducible repeat (first | apply Kd.R_alloc | apply Kd.R_drewN | apply Kd.R_drew)); exact HO105.out, by repeat (first | (with_reducible first | exact HB.out | apply below_alloc | apply pw_below_drewN | apply below_drew1) | exact HB.out)⟩

/-! ### eacc_others: function 11 -/
def eacc_others.f  : Option ((List (S35))) := some (([(⟨2568225, 19968⟩ : S35), (⟨2568228, 19976⟩ : S35), (⟨2568237, 19992⟩ : S35), (⟨3362337, 12300⟩ : S35)] : List (S35)))
set_option maxHeartbeats 8000000 in
set_option maxRecDepth 100000 in
theorem eacc_others.calls  (r : List (S35)) (w : World) (h : eacc_others.f  = some r) :
    Calls Try.prog 11 #[] w fun e w' => ∃ v0_ : Value, e = .returned (v0_) ∧ Kd.R k35 35 w' w.heap.size (fun _ => True) v0_ r ∧ Below w.heap.size w w' := by
  have hu35 := Try.underlying35
  have HB := Aside0.mk (Below.refl w.heap.size w)
  have H : (some (([(⟨2568225, 19968⟩ : S35), (⟨2568228, 19976⟩ : S35), (⟨2568237, 19992⟩ : S35), (⟨3362337, 12300⟩ : S35)] : List (S35)))) = some r := h
  clear h
  obtain ⟨y106, hy106⟩ : ∃ y_ : List (S35), y_ = (([(⟨2568225, 19968⟩ : S35), (⟨2568228, 19976⟩ : S35), (⟨2568237, 19992⟩ : S35), (⟨3362337, 12300⟩ : S35)] : List (S35))) := ⟨_, rfl⟩
  replace H : (some y106) = some r := by first | (rw [hy106]; with_reducible exact H) | (have H2_ := (Option.bind_some _ _).symm.trans H; rw [hy106]; with_reducible exact H2_) | (have H2_ := (Option.bind_some _ _).symm.trans H; with_reducible exact H2_) | with_reducible exact H | (rw [hy106]; exact H) | exact H
  have Ny106 := Aside0.mk hy106
  clear hy106
  obtain rfl := Option.some.inj H
  go_enter Try.func11, Try.ntmps11
  go_wp2_with (first | ((with_reducible refine gate_dst (N := 5) rfl ?_); refine Kd.R_lit k35 _ 35 ?hg (N := 5) ?hd (xs := ([(⟨2568225, 19968⟩ : S35), (⟨2568228, 19976⟩ : S35), (⟨2568237, 19992⟩ : S35), (⟨3362337, 12300⟩ : S35)] : List (S35))) (inner := [.int .i64 2568225, .int .i32 19968, .int .i64 2568228, .int .i32 19976, .int .i64 2568237, .int .i32 19992, .int .i64 3362337, .int .i32 12300]) (ok := fun _ => True) (okp := fun _ => True) ?hr ?hp (fun _ hk => hk) trivial (Below.refl _ _) (Nat.le_refl _) (by simp) ?_; (case hd => rfl); (case hg => rfl); (case hr => first | (go_simp; done) | (go_simp; rfl)); (case hp => exact (Reps.c2 (show Kd.M k35 _ _ _ (⟨2568225, 19968⟩ : S35) [.int .i64 2568225, .int .i32 19968] from (k35_mkM _ _ _ (⟨2568225, 19968⟩ : S35) )) (Reps.c2 (show Kd.M k35 _ _ _ (⟨2568228, 19976⟩ : S35) [.int .i64 2568228, .int .i32 19976] from (k35_mkM _ _ _ (⟨2568228, 19976⟩ : S35) )) (Reps.c2 (show Kd.M k35 _ _ _ (⟨2568237, 19992⟩ : S35) [.int .i64 2568237, .int .i32 19992] from (k35_mkM _ _ _ (⟨2568237, 19992⟩ : S35) )) (Reps.c2 (show Kd.M k35 _ _ _ (⟨3362337, 12300⟩ : S35) [.int .i64 3362337, .int .i32 12300] from (k35_mkM _ _ _ (⟨3362337, 12300⟩ : S35) )) (Reps.none _ _)))))); intro v107 w1 ho2 hb hg_ hnew_; clear hg_ hnew_; (first | rw [← Ny106.out] at ho2 | (simp only [Int.reduceToNat] at ho2; rw [← Ny106.out] at ho2)); have n0_ := Aside0.mk (Kd.R_lower ho2 (below_size (by repeat (first | (with_reducible first | exact HB.out | apply below_alloc | apply pw_below_drewN | apply below_drew1) | exact HB.out)))); have n1_ := Aside0.mk (below_step (by repeat (first | (with_reducible first | exact HB.out | apply below_alloc | apply pw_below_drewN | apply below_drew1) | exact HB.out)) hb); clear HB; have HO108 := n0_; have HB := n1_; clear n0_ n1_; clear hb ho2))
  go_ret
  exact ⟨_, by first | rfl | (simp [errW_none, errW_some] <;> rfl) | (simp [*, errW_none, errW_some] <;> rfl), by (with_reducible repeat (first | apply Kd.R_alloc | apply Kd.R_drewN | apply Kd.R_drew)); exact HO108.out, by repeat (first | (with_reducible first | exact HB.out | apply below_alloc | apply pw_below_drewN | apply below_drew1) | exact HB.out)⟩

/-! ### eacc_ideograph: function 12 -/
/-- The characters, in their order. -/
def runes : List Int := [19968, 19969, 19971, 19976, 19977, 19979, 19978, 19981, 19985, 19988, 19990, 19992, 19993, 20006, 20013, 20024, 20025, 20027, 20035, 20037, 20043, 20045, 20046, 20047, 20054, 20056, 20057, 20061, 20062, 20063, 20083, 20094, 20098, 20102, 20104, 20107, 20108, 20110, 20113, 20114, 20116, 20117, 20123, 20126, 20129, 20132, 20133, 20134, 20136, 20139, 20140, 20141, 20154, 20160, 20161, 20167, 20170, 20171, 20173, 20182, 20184, 20185, 20195, 20196, 20197, 20208, 20210, 20214, 20219, 20225, 20234, 20237, 20241, 20239, 20271, 20276, 20280, 20284, 20301, 20302, 20303, 20309, 20313, 20315, 20316, 20320, 20329, 20339, 20351, 20358, 20363, 20379, 20381, 20415, 20418, 20419, 20420, 20426, 20439, 20445, 20449, 20462, 20491, 20493, 20498, 20505, 20511, 20523, 20540, 20551, 20553, 20559, 20581, 20596, 20598, 20621, 20625, 20633, 20659, 20663, 20687, 20677, 20689, 20736, 20740, 20754, 20778, 20803, 20804, 20805, 20806, 20808, 20809, 20811, 20813, 20818, 20837, 20839, 20840, 20841, 20843, 20844, 20845, 20849, 20853, 20854, 20855, 20856, 20877, 20874, 20908, 20912, 20919, 20934, 20961, 20986, 20992, 20998, 20999, 21009, 21015, 21021, 21028, 21029, 21033, 21040, 21046, 21050, 21051, 21063, 21069, 21083, 21109, 21147, 21151]
/-- Their bytes. -/
def runesS : ByteArray := ⟨((runes.flatMap fun r => [224 + r / 4096, 128 + r / 64 % 64, 128 + r % 64]).map fun b => UInt8.ofNat b.toNat).toArray⟩
theorem runesS_size : runesS.size = 525 := by decide +kernel
theorem runesS_all : ∀ j : Fin 175, Utf8.decode runesS (3 * j.val) = ((runes.getD j.val 0).toNat, 3) ∧ 0 ≤ runes.getD j.val 0 := by decide +kernel
theorem runesS_at (j : Nat) (hj : j < 175) : (((Utf8.decode runesS (3 * j)).1 : Nat) : Int) = rd runes (j : Int) ∧ (Utf8.decode runesS (3 * j)).2 = 3 := by
  have := runesS_all ⟨j, hj⟩
  simp only at this
  rw [this.1]
  refine ⟨?_, rfl⟩
  unfold rd
  rw [Int.toNat_natCast]
  exact Int.toNat_of_nonneg this.2
theorem i64_and255 (n : Int) : Go.bits .and .i64 n 255 = n % 256 := by
  have h255 : (BitVec.ofInt 64 255).toNat = 2 ^ 8 - 1 := by decide
  have key : (BitVec.ofInt 64 n &&& BitVec.ofInt 64 255).toNat = (n % ((2 ^ 64 : Nat) : Int)).toNat % 2 ^ 8 := by
    rw [BitVec.toNat_and, BitVec.toNat_ofInt, h255, Nat.and_two_pow_sub_one_eq_mod]
  show IntKind.i64.wrap ((BitVec.ofInt 64 n &&& BitVec.ofInt 64 255).toNat : Nat) = n % 256
  rw [key, IntKind.wrap_i64]
  omega
/-- Where a number's character stands. -/
def ideoK (n : Int) : Int := (n / 256 - 8496) * 94 + Go.bits .and .i64 n 255 - 33
/-- The character of a number, by rows. -/
def ideoI (n : Int) : Int × Bool := if n < 2175009 then (0, false) else if Go.bits .and .i64 n 255 < 33 then (0, false) else if Go.bits .and .i64 n 255 > 126 then (0, false) else if ideoK n < 175 then (rd runes (ideoK n), true) else (0, false)
def eacc_ideograph.f (a0 : Int) : Option (Int × Bool) := if -9223372036854775808 ≤ a0 then (if a0 ≤ 9223372036854775807 then some (ideoI a0) else none) else none
set_option maxHeartbeats 8000000 in
set_option maxRecDepth 100000 in
theorem eacc_ideograph.calls (a0 : Int) (r1 : Int) (r2 : Bool) (w : World) (h : eacc_ideograph.f a0 = some (r1, r2)) :
    Calls Try.prog 12 #[.int .i64 a0] w fun e w' => e = .returned (.tuple #[.int .i32 r1, .bool r2]) ∧ Below w.heap.size w w' := by
  unfold eacc_ideograph.f at h
  by_cases w0 : -9223372036854775808 ≤ a0
  case neg => rw [if_neg w0] at h; exact absurd h (by simp)
  by_cases w1 : a0 ≤ 9223372036854775807
  case neg => rw [if_pos w0, if_neg w1] at h; exact absurd h (by simp)
  rw [if_pos w0, if_pos w1] at h
  have hb := i64_and255 a0
  have b0 : 0 ≤ Go.bits .and .i64 a0 255 := by rw [hb]; omega
  have b1 : Go.bits .and .i64 a0 255 ≤ 255 := by rw [hb]; omega
  clear hb
  unfold ideoI at h
  by_cases c1 : a0 < 2175009
  · rw [if_pos c1] at h
    simp only [Option.some.injEq, Prod.mk.injEq] at h
    obtain ⟨rfl, rfl⟩ := h
    go_enter Try.func12, Try.ntmps12
    go_wp2
    go_ret2
    exact ⟨rfl, Below.refl _ _⟩
  rw [if_neg c1] at h
  by_cases c2 : Go.bits .and .i64 a0 255 < 33
  · rw [if_pos c2] at h
    simp only [Option.some.injEq, Prod.mk.injEq] at h
    obtain ⟨rfl, rfl⟩ := h
    go_enter Try.func12, Try.ntmps12
    go_wp2
    go_ret2
    exact ⟨rfl, Below.refl _ _⟩
  rw [if_neg c2] at h
  by_cases c3 : Go.bits .and .i64 a0 255 > 126
  · rw [if_pos c3] at h
    simp only [Option.some.injEq, Prod.mk.injEq] at h
    obtain ⟨rfl, rfl⟩ := h
    go_enter Try.func12, Try.ntmps12
    go_wp2
    go_ret2
    exact ⟨rfl, Below.refl _ _⟩
  rw [if_neg c3] at h
  have H := Aside0.mk h
  clear h
  obtain ⟨K, hK⟩ : ∃ K, K = ideoK a0 := ⟨_, rfl⟩
  have hK0 : 0 ≤ K := by rw [hK]; unfold ideoK; omega
  have hK1 : K ≤ 9223372036854775000 := by rw [hK]; unfold ideoK; omega
  have HK := Aside0.mk hK
  clear hK
  go_enter Try.func12, Try.ntmps12
  go_wp2
  generalize hS : ByteArray.mk (List.toArray _) = S
  obtain rfl : S = runesS := hS.symm.trans (by kernel_rfl)
  clear hS
  rw [show (a0 / 256 - 8496) * 94 + Go.bits .and .i64 a0 255 - 33 = K from HK.out.symm]
  go_loopw [5] (fun v5 wr => ∃ j : Nat, j ≤ 175 ∧ (j : Int) ≤ K ∧ v5 = .int .i64 (K - j) ∧ Aside0 (wr.heap[w.heap.size]? = some (.stringIter runesS (3 * j))) ∧ Aside0 (Below w.heap.size w wr)) (fun _ wr => 525 - wr.iterPos w.heap.size)
  case atStart => exact ⟨0, by omega, by omega, by simp, ⟨World.iter_heap w runesS 0⟩, ⟨(Below.refl _ w).alloc (Nat.le_refl _) _⟩⟩
  case round =>
    obtain ⟨j, hj, hjK, rfl, HI, HB⟩ := hrel
    have hsz : w.heap.size < wr.heap.size := (Array.getElem?_eq_some_iff.1 HI.out).1
    by_cases hp : j < 175
    · obtain ⟨d1, d2⟩ := runesS_at j hp
      have hnx : ∀ ty, (Instr.next (.pointer (some ⟨w.heap.size, 0, none⟩)) true ty).run Try.prog wr = .ok (.tuple #[.bool true, .int .i64 ((3 * j : Nat) : Int), .int .i32 (rd runes (j : Int))]) (wr.iterAt w.heap.size runesS (3 * (j + 1))) := fun ty => by
        have := Lib.run_next_any_at (P := Try.prog) wr w.heap.size runesS (3 * j) ty HI.out (by rw [runesS_size]; omega)
        rw [d1, d2] at this
        exact this
      clear d1 d2
      have HI2 := Aside0.mk (Lib.iterAt_heap wr w.heap.size runesS (3 * j) (3 * (j + 1)) HI.out)
      have HB2 := Aside0.mk (Lib.below_iterAt HB.out (k := w.heap.size) (by omega) runesS (3 * (j + 1)))
      by_cases hz : K - j = 0
      · have hz1 : ((K - (j : Int)) == 0) = true := by simpa using hz
        have HJ := Aside0.mk (show K = (j : Int) by omega)
        clear hz
        go_wp2
        have h := H.out
        rw [if_pos (by rw [← HK.out, HJ.out]; omega), ← HK.out, HJ.out] at h
        simp only [Option.some.injEq, Prod.mk.injEq] at h
        obtain ⟨rfl, rfl⟩ := h
        go_ret2
        exact ⟨rfl, HB2.out⟩
      · have hz1 : ((K - (j : Int)) == 0) = false := by simpa using hz
        have hz2 : 1 ≤ K - (j : Int) := by omega
        clear hz
        go_wp2
        go_roundw
        case rel => exact ⟨j + 1, by omega, by omega, by first | rfl | (congr 1; omega), HI2, HB2⟩
        case measure =>
          simp only [World.iterPos, HI2.out, HI.out]
          omega
    · have hj' : j = 175 := by omega
      subst hj'
      have hnx : ∀ ty, (Instr.next (.pointer (some ⟨w.heap.size, 0, none⟩)) true ty).run Try.prog wr = .ok (.tuple #[.bool false]) wr := fun ty => Lib.run_next_end_at wr w.heap.size runesS (3 * 175) ty HI.out (by rw [runesS_size]; omega)
      have h := H.out
      rw [if_neg (by rw [← HK.out]; omega)] at h
      simp only [Option.some.injEq, Prod.mk.injEq] at h
      obtain ⟨rfl, rfl⟩ := h
      go_wp2
      go_ret2
      exact ⟨rfl, HB.out⟩
/-! ### eacc_Rune: function 6 -/
mutual
def eacc_Rune.j1 : Nat → Int → Option (Int × Bool)
  | 0, _ => none
  | k + 1, x0 => (eacc_signs.f).bind fun t112 => ((eacc_others.f).bind fun t115 => (if t112.length + t115.length < 8796093022208 then ((eacc_find.f k (t112 ++ t115) x0).bind fun bt121 => (if bt121.2 = true then (some (bt121.1, true)) else ((eacc_ideograph.f x0).bind fun bt123 => (some (bt123.1, bt123.2))))) else (none)))
def eacc_Rune.j0 : Nat → Int → Bool → Option (Int × Bool)
  | 0, _, _ => none
  | k + 1, x0, x6 => if x6 = true then (some (wrap32 (12353 + (wrap32 (wrap64 (x0 - 6890529)))), true)) else (if x0 ≥ 6890785 then (if x0 ≤ 6890870 then (some (wrap32 (12449 + (wrap32 (wrap64 (x0 - 6890785)))), true)) else (eacc_Rune.j1 k x0)) else (eacc_Rune.j1 k x0))
end
def eacc_Rune.f (k : Nat) (a0 : Int) : Option (Int × Bool) := if a0 ≥ 6890529 then (eacc_Rune.j0 k a0 (decide (a0 ≤ 6890611))) else (eacc_Rune.j0 k a0 false)
theorem eacc_Rune.mono_l : ∀ k, (∀ y0, LeO (eacc_Rune.j1 k y0) (eacc_Rune.j1 (k + 1) y0)) ∧ (∀ y0 y1, LeO (eacc_Rune.j0 k y0 y1) (eacc_Rune.j0 (k + 1) y0 y1))
  | 0 => ⟨fun _ r h => by simp [eacc_Rune.j1] at h, fun _ _ r h => by simp [eacc_Rune.j0] at h⟩
  | k + 1 => by
    obtain ⟨ih0, ih1⟩ := eacc_Rune.mono_l k
    refine ⟨?_, ?_⟩
    · intro y0
      unfold eacc_Rune.j1
      repeat' first
      | (with_reducible exact ih0 _)
      | (with_reducible exact ih1 _ _)
      | (with_reducible exact eacc_find.mono _ _ _)
      | (with_reducible exact LeO.refl _)
      | (with_reducible exact LeO.none _)
      | (with_reducible refine LeO.ite ?_ ?_)
      | (with_reducible refine LeO.bind ?_ (fun _ => ?_))
      | exact ih0 _
      | exact ih1 _ _
      | exact eacc_find.mono _ _ _
      | exact LeO.none _
      | refine LeO.ite ?_ ?_
      | refine LeO.bind ?_ (fun _ => ?_)
    · intro y0 y1
      unfold eacc_Rune.j0
      repeat' first
      | (with_reducible exact ih0 _)
      | (with_reducible exact ih1 _ _)
      | (with_reducible exact eacc_find.mono _ _ _)
      | (with_reducible exact LeO.refl _)
      | (with_reducible exact LeO.none _)
      | (with_reducible refine LeO.ite ?_ ?_)
      | (with_reducible refine LeO.bind ?_ (fun _ => ?_))
      | exact ih0 _
      | exact ih1 _ _
      | exact eacc_find.mono _ _ _
      | exact LeO.none _
      | refine LeO.ite ?_ ?_
      | refine LeO.bind ?_ (fun _ => ?_)
theorem eacc_Rune.mono : ∀ a0 k, LeO (eacc_Rune.f k a0) (eacc_Rune.f (k + 1) a0) := by
  intro a0 k
  obtain ⟨ih0, ih1⟩ := eacc_Rune.mono_l k
  unfold eacc_Rune.f
  repeat' first
      | (with_reducible exact ih0 _)
      | (with_reducible exact ih1 _ _)
      | (with_reducible exact eacc_find.mono _ _ _)
      | (with_reducible exact LeO.refl _)
      | (with_reducible exact LeO.none _)
      | (with_reducible refine LeO.ite ?_ ?_)
      | (with_reducible refine LeO.bind ?_ (fun _ => ?_))
      | exact ih0 _
      | exact ih1 _ _
      | exact eacc_find.mono _ _ _
      | exact LeO.none _
      | refine LeO.ite ?_ ?_
      | refine LeO.bind ?_ (fun _ => ?_)
set_option maxHeartbeats 8000000 in
set_option maxRecDepth 100000 in
theorem eacc_Rune.calls (k : Nat) (a0 : Int) (r1 : Int) (r2 : Bool) (w : World) (h : eacc_Rune.f k a0 = some (r1, r2)) :
    Calls Try.prog 6 #[.int .i64 a0] w fun e w' => e = .returned (.tuple #[.int .i32 r1, .bool r2]) ∧ Below w.heap.size w w' := by
  have HB := Aside0.mk (Below.refl w.heap.size w)
  have H : (if a0 ≥ 6890529 then (eacc_Rune.j0 k a0 (decide (a0 ≤ 6890611))) else (eacc_Rune.j0 k a0 false)) = some (r1, r2) := h
  clear h
  have HC2 := Aside0.mk H
  clear H
  go_enter Try.func6, Try.ntmps6
  go_upto_block 0 with (fail)
  go_cut [] (fun wc => ∃ (kq : Nat), Aside0 (eacc_Rune.j1 kq a0 = some (r1, r2)) ∧ Aside0 (kq ≤ k) ∧ Aside0 (Below w.heap.size w wc))
  case first =>
    have H := HC2.out
    clear HC2
    have HC3 := Aside0.mk H
    clear H
    go_upto_region 1 with (fail)
    go_cut [6] (fun v6 wc => ∃ (kq : Nat) (x6_2 : Bool), v6 = .bool x6_2 ∧ Aside0 (eacc_Rune.j0 kq a0 x6_2 = some (r1, r2)) ∧ Aside0 (kq ≤ k) ∧ Aside0 (Below w.heap.size w wc))
    case first =>
      have H := HC3.out
      clear HC3
      by_cases c4 : a0 ≥ 6890529
      · rw [if_pos c4] at H
        have c4b0 : decide (6890529 ≤ a0) = true := decide_eq_true c4
        clear c4
        (first | rw [c4b0] | (simp only [i64_w, i32_w]; rw [c4b0]) | skip)
        have H' := Aside0.mk H
        clear H
        go_wp2
        go_meet
        case rel => exact ⟨_, (decide (a0 ≤ 6890611)), (by first | rfl | (simp; done) | (simp [*]; done)), H', ⟨by first | omega | exact Nat.le_refl _⟩, ⟨by repeat (first | (with_reducible first | exact HB.out | apply below_alloc | apply pw_below_drewN | apply below_drew1) | exact HB.out)⟩⟩
      · rw [if_neg c4] at H
        have c4b0 : decide (6890529 ≤ a0) = false := decide_eq_false c4
        clear c4
        (first | rw [c4b0] | (simp only [i64_w, i32_w]; rw [c4b0]) | skip)
        have H' := Aside0.mk H
        clear H
        go_wp2
        go_meet
        case rel => exact ⟨_, (false), (by first | rfl | (simp; done) | (simp [*]; done)), H', ⟨by first | omega | exact Nat.le_refl _⟩, ⟨by repeat (first | (with_reducible first | exact HB.out | apply below_alloc | apply pw_below_drewN | apply below_drew1) | exact HB.out)⟩⟩
    case rest =>
      clear HC3
      try clear p2
      try clear c4
      try clear c4b0
      obtain ⟨kq, x6_2, rfl, HA, HJ2, HB⟩ := hcut
      cases kq with
      | zero => exact absurd HA.out (by simp [eacc_Rune.j0])
      | succ kj2 =>
        have H := HA.out
        clear HA
        simp only [eacc_Rune.j0] at H
        by_cases c5 : x6_2 = true
        · subst c5
          have H1 : (some (wrap32 (12353 + (wrap32 (wrap64 (a0 - 6890529)))), true)) = some (r1, r2) := by rw [if_pos rfl] at H; exact H
          clear H
          have H := H1
          clear H1
          simp only [Option.some.injEq, Prod.mk.injEq] at H
          obtain ⟨rfl, rfl⟩ := H
          go_wp2
          go_ret2
          exact ⟨by first | rfl | (simp [errW_none, errW_some] <;> rfl) | (simp [*, errW_none, errW_some] <;> rfl), by repeat (first | (with_reducible first | exact HB.out | apply below_alloc | apply pw_below_drewN | apply below_drew1) | exact HB.out)⟩
        · replace c5 := Bool.eq_false_iff.mpr c5
          subst c5
          have H1 : (if a0 ≥ 6890785 then (if a0 ≤ 6890870 then (some (wrap32 (12449 + (wrap32 (wrap64 (a0 - 6890785)))), true)) else (eacc_Rune.j1 kj2 a0)) else (eacc_Rune.j1 kj2 a0)) = some (r1, r2) := by rw [if_neg (show ¬ (false = true) by decide)] at H; exact H
          clear H
          have H := H1
          clear H1
          by_cases c6 : a0 ≥ 6890785
          · rw [if_pos c6] at H
            have c6b0 : decide (6890785 ≤ a0) = true := decide_eq_true c6
            clear c6
            by_cases c7 : a0 ≤ 6890870
            · rw [if_pos c7] at H
              have c7b0 : decide (a0 ≤ 6890870) = true := decide_eq_true c7
              clear c7
              simp only [Option.some.injEq, Prod.mk.injEq] at H
              obtain ⟨rfl, rfl⟩ := H
              go_wp2
              go_ret2
              exact ⟨by first | rfl | (simp [errW_none, errW_some] <;> rfl) | (simp [*, errW_none, errW_some] <;> rfl), by repeat (first | (with_reducible first | exact HB.out | apply below_alloc | apply pw_below_drewN | apply below_drew1) | exact HB.out)⟩
            · rw [if_neg c7] at H
              have c7b0 : decide (a0 ≤ 6890870) = false := decide_eq_false c7
              clear c7
              have H' := Aside0.mk H
              clear H
              go_wp2
              go_meet
              case rel => exact ⟨_, H', ⟨by have := HJ2.out; first | omega | exact Nat.le_refl _⟩, ⟨by repeat (first | (with_reducible first | exact HB.out | apply below_alloc | apply pw_below_drewN | apply below_drew1) | exact HB.out)⟩⟩
          · rw [if_neg c6] at H
            have c6b0 : decide (6890785 ≤ a0) = false := decide_eq_false c6
            clear c6
            have H' := Aside0.mk H
            clear H
            go_wp2
            go_meet
            case rel => exact ⟨_, H', ⟨by have := HJ2.out; first | omega | exact Nat.le_refl _⟩, ⟨by repeat (first | (with_reducible first | exact HB.out | apply below_alloc | apply pw_below_drewN | apply below_drew1) | exact HB.out)⟩⟩
  case rest =>
    clear HC2
    try clear p2
    try clear p3
    try clear c4
    try clear c4b0
    try clear c5
    try clear c6
    try clear c6b0
    try clear p6
    try clear c7
    try clear c7b0
    try clear p2
    obtain ⟨kq, HA, HJ1, HB⟩ := hcut
    cases kq with
    | zero => exact absurd HA.out (by simp [eacc_Rune.j1])
    | succ kj1 =>
      have H := HA.out
      clear HA
      simp only [eacc_Rune.j1] at H
      replace H := Option.bind_eq_some_iff.mp H
      obtain ⟨t112, A80, H⟩ := H
      replace H : ((eacc_others.f).bind fun t115 => (if t112.length + t115.length < 8796093022208 then ((eacc_find.f kj1 (t112 ++ t115) a0).bind fun bt121 => (if bt121.2 = true then (some (bt121.1, true)) else ((eacc_ideograph.f a0).bind fun bt123 => (some (bt123.1, bt123.2))))) else (none))) = some (r1, r2) := H
      have A8 := Aside0.mk A80
      clear A80
      replace H := Option.bind_eq_some_iff.mp H
      obtain ⟨t115, A90, H⟩ := H
      replace H : (if t112.length + t115.length < 8796093022208 then ((eacc_find.f kj1 (t112 ++ t115) a0).bind fun bt121 => (if bt121.2 = true then (some (bt121.1, true)) else ((eacc_ideograph.f a0).bind fun bt123 => (some (bt123.1, bt123.2))))) else (none)) = some (r1, r2) := H
      have A9 := Aside0.mk A90
      clear A90
      by_cases c10 : t112.length + t115.length < 8796093022208
      · rw [if_pos c10] at H
        have LMc10 := Aside0.mk c10
        clear c10
        obtain ⟨y118, hy118⟩ : ∃ y_ : List (S35), y_ = (t112 ++ t115) := ⟨_, rfl⟩
        replace H : ((eacc_find.f kj1 y118 a0).bind fun bt121 => (if bt121.2 = true then (some (bt121.1, true)) else ((eacc_ideograph.f a0).bind fun bt123 => (some (bt123.1, bt123.2))))) = some (r1, r2) := by first | (rw [hy118]; with_reducible exact H) | (have H2_ := (Option.bind_some _ _).symm.trans H; rw [hy118]; with_reducible exact H2_) | (have H2_ := (Option.bind_some _ _).symm.trans H; with_reducible exact H2_) | with_reducible exact H | (rw [hy118]; exact H) | exact H
        have Ny118 := Aside0.mk hy118
        clear hy118
        replace H := Option.bind_eq_some_iff.mp H
        obtain ⟨⟨t121, t122⟩, A110, H⟩ := H
        replace H : (if t122 = true then (some (t121, true)) else ((eacc_ideograph.f a0).bind fun bt123 => (some (bt123.1, bt123.2)))) = some (r1, r2) := H
        have A11 := Aside0.mk A110
        clear A110
        by_cases c12 : t122 = true
        · subst c12
          have H1 : (some (t121, true)) = some (r1, r2) := by rw [if_pos rfl] at H; exact H
          clear H
          have H := H1
          clear H1
          simp only [Option.some.injEq, Prod.mk.injEq] at H
          obtain ⟨rfl, rfl⟩ := H
          go_wp2_with (first | ((with_reducible refine gate_callee (f := 10) rfl ?_); refine goesL_ (some 29) rfl rfl Try.func10 (by kernel_rfl) rfl #[] rfl (by (try simp only [List.map_toArray, List.map_cons, List.map_nil]); first | done | rfl | (simp only [List.length_drop, List.length_take]; rfl)) ?_; (with_reducible refine (eacc_signs.calls  t112 _ A8.out).mono ?_); rintro e w13 ⟨v113, rfl, ho0, hb⟩; refine ⟨_, rfl, ?_⟩; have n0_ := Aside0.mk (Kd.R_lower ho0 (below_size (by repeat (first | (with_reducible first | exact HB.out | apply below_alloc | apply pw_below_drewN | apply below_drew1) | exact HB.out)))); have n1_ := Aside0.mk (below_step (by repeat (first | (with_reducible first | exact HB.out | apply below_alloc | apply pw_below_drewN | apply below_drew1) | exact HB.out)) hb); clear HB; have HO114 := n0_; have HB := n1_; clear n0_ n1_; (try clear hb); (try clear hb2); (try clear hk); (try clear hi); (try clear ho0)) | ((with_reducible refine gate_callee (f := 11) rfl ?_); refine goesL_ (some 30) rfl rfl Try.func11 (by kernel_rfl) rfl #[] rfl (by (try simp only [List.map_toArray, List.map_cons, List.map_nil]); first | done | rfl | (simp only [List.length_drop, List.length_take]; rfl)) ?_; (with_reducible refine (eacc_others.calls  t115 _ A9.out).mono ?_); rintro e w14 ⟨v116, rfl, ho0, hb⟩; refine ⟨_, rfl, ?_⟩; have n0_ := Aside0.mk (Kd.R_elder' (by (with_reducible repeat (first | apply Kd.R_alloc | apply Kd.R_drewN | apply Kd.R_drew)); exact HO114.out) (Kd.R_base ho0) hb); have n1_ := Aside0.mk (Kd.R_lower (Kd.R_new' ho0 (Kd.R_lt (by (with_reducible repeat (first | apply Kd.R_alloc | apply Kd.R_drewN | apply Kd.R_drew)); exact HO114.out))) (below_size (by repeat (first | (with_reducible first | exact HB.out | apply below_alloc | apply pw_below_drewN | apply below_drew1) | exact HB.out)))); have n2_ := Aside0.mk (below_step (by repeat (first | (with_reducible first | exact HB.out | apply below_alloc | apply pw_below_drewN | apply below_drew1) | exact HB.out)) hb); clear HO114; clear HB; have HO114 := n0_; have HO117 := n1_; have HB := n2_; clear n0_ n1_ n2_; (try clear hb); (try clear hb2); (try clear hk); (try clear hi); (try clear ho0); obtain ⟨Ao16, co16, eo16⟩ := Kd.R_slice HO117.out; subst eo16) | ((with_reducible refine gate_builtin (b := .append) (xs := #[.tmp 29, .tmp 30]) rfl ?_); at_builtin; refine Kd.R_append_rows k35 (w0 := w) w.heap.size rfl (.tmp 29) (.tmp 30) 32 35 (.agg #[(.int .i64 0), (.int .i32 0)]) 16 rfl Try.underlying32 info35 rfl (by decide) (by omega) v113 t112 t115 _ _ _ (fun k_ => some k_ ≠ (.slice Ao16 t115.length co16 : Value).ownBlock) (fun _ => False) rfl rfl ?aO ?aR (fun _ _ h => h) (fun _ h => h.elim) ?aF ?aB ?aS ?aL ?_; (case aR => repeat (first | exact (Kd.R_reads' HO117.out).2.2 | (with_reducible refine Kd.C_alloc ?_ _) | (with_reducible refine Kd.C_drewN ?_ _) | (with_reducible refine Kd.C_drew ?_))); (case aB => exact (by repeat (first | (with_reducible first | exact HB.out | apply below_alloc | apply pw_below_drewN | apply below_drew1) | exact HB.out))); (case aF => exact (fun k_ hk => Kd.fresh' (Kd.R_lt (by (with_reducible repeat (first | apply Kd.R_alloc | apply Kd.R_drewN | apply Kd.R_drew)); exact HO117.out)) k_ hk)); (case aO => exact (by (with_reducible repeat (first | apply Kd.R_alloc | apply Kd.R_drewN | apply Kd.R_drew)); exact Kd.R_mono HO114.out (fun _ hk => hk.2))); (case aS => exact (below_size (by repeat (first | (with_reducible first | exact HB.out | apply below_alloc | apply pw_below_drewN | apply below_drew1) | exact HB.out)))); (case aL => have := LMc10.out; omega); intro v119 w15 ho hb hg hat; rw [← Ny118.out] at ho; have n0_ := Aside0.mk (Kd.R_after (ok := (fun _ => True)) (by (with_reducible repeat (first | apply Kd.R_alloc | apply Kd.R_drewN | apply Kd.R_drew)); exact HO117.out) hg hat); have n1_ := Aside0.mk (hb); have n2_ := Aside0.mk (ho); clear HO117; clear HB; clear HO114; have HO117 := n0_; have HB := n1_; have HO120 := n2_; clear n0_ n1_ n2_; clear ho hb hg hat; obtain ⟨Ao17, co17, eo17⟩ := Kd.R_slice HO120.out; subst eo17) | ((with_reducible refine gate_callee (f := 9) rfl ?_); refine goesL_ (some 33) rfl rfl Try.func9 (by kernel_rfl) rfl #[.slice Ao17 y118.length co17, .int .i64 a0] rfl (by (try simp only [List.map_toArray, List.map_cons, List.map_nil]); first | done | rfl | (simp only [List.length_drop, List.length_take]; rfl)) ?_; (with_reducible refine (eacc_find.calls kj1 _ _ y118 a0 t121 true _ ?side1 ?side2 A11.out).mono ?_); (case side1 => repeat (first | exact (Kd.R_reads' HO120.out).2.2 | (with_reducible refine Kd.C_alloc ?_ _) | (with_reducible refine Kd.C_drewN ?_ _) | (with_reducible refine Kd.C_drew ?_))); (case side2 => exact (Kd.R_reads' HO120.out).2.1); rintro e w18 ⟨rfl, hb⟩; refine ⟨_, rfl, ?_⟩; have n0_ := Aside0.mk (Kd.R_below (by (with_reducible repeat (first | apply Kd.R_alloc | apply Kd.R_drewN | apply Kd.R_drew)); exact HO117.out) hb); have n1_ := Aside0.mk (Kd.R_below (by (with_reducible repeat (first | apply Kd.R_alloc | apply Kd.R_drewN | apply Kd.R_drew)); exact HO120.out) hb); have n2_ := Aside0.mk (below_step (by repeat (first | (with_reducible first | exact HB.out | apply below_alloc | apply pw_below_drewN | apply below_drew1) | exact HB.out)) hb); clear HO117; clear HO120; clear HB; have HO117 := n0_; have HO120 := n1_; have HB := n2_; clear n0_ n1_ n2_; (try clear hb); (try clear hb2); (try clear hk); (try clear hi)))
          go_ret2
          exact ⟨by first | rfl | (simp [errW_none, errW_some] <;> rfl) | (simp [*, errW_none, errW_some] <;> rfl), by repeat (first | (with_reducible first | exact HB.out | apply below_alloc | apply pw_below_drewN | apply below_drew1) | exact HB.out)⟩
        · replace c12 := Bool.eq_false_iff.mpr c12
          subst c12
          have H1 : ((eacc_ideograph.f a0).bind fun bt123 => (some (bt123.1, bt123.2))) = some (r1, r2) := by rw [if_neg (show ¬ (false = true) by decide)] at H; exact H
          clear H
          have H := H1
          clear H1
          replace H := Option.bind_eq_some_iff.mp H
          obtain ⟨⟨t123, t124⟩, A190, H⟩ := H
          replace H : (some (t123, t124)) = some (r1, r2) := H
          have A19 := Aside0.mk A190
          clear A190
          simp only [Option.some.injEq, Prod.mk.injEq] at H
          obtain ⟨rfl, rfl⟩ := H
          go_wp2_with (first | ((with_reducible refine gate_callee (f := 10) rfl ?_); refine goesL_ (some 29) rfl rfl Try.func10 (by kernel_rfl) rfl #[] rfl (by (try simp only [List.map_toArray, List.map_cons, List.map_nil]); first | done | rfl | (simp only [List.length_drop, List.length_take]; rfl)) ?_; (with_reducible refine (eacc_signs.calls  t112 _ A8.out).mono ?_); rintro e w20 ⟨v113, rfl, ho0, hb⟩; refine ⟨_, rfl, ?_⟩; have n0_ := Aside0.mk (Kd.R_lower ho0 (below_size (by repeat (first | (with_reducible first | exact HB.out | apply below_alloc | apply pw_below_drewN | apply below_drew1) | exact HB.out)))); have n1_ := Aside0.mk (below_step (by repeat (first | (with_reducible first | exact HB.out | apply below_alloc | apply pw_below_drewN | apply below_drew1) | exact HB.out)) hb); clear HB; have HO114 := n0_; have HB := n1_; clear n0_ n1_; (try clear hb); (try clear hb2); (try clear hk); (try clear hi); (try clear ho0)) | ((with_reducible refine gate_callee (f := 11) rfl ?_); refine goesL_ (some 30) rfl rfl Try.func11 (by kernel_rfl) rfl #[] rfl (by (try simp only [List.map_toArray, List.map_cons, List.map_nil]); first | done | rfl | (simp only [List.length_drop, List.length_take]; rfl)) ?_; (with_reducible refine (eacc_others.calls  t115 _ A9.out).mono ?_); rintro e w21 ⟨v116, rfl, ho0, hb⟩; refine ⟨_, rfl, ?_⟩; have n0_ := Aside0.mk (Kd.R_elder' (by (with_reducible repeat (first | apply Kd.R_alloc | apply Kd.R_drewN | apply Kd.R_drew)); exact HO114.out) (Kd.R_base ho0) hb); have n1_ := Aside0.mk (Kd.R_lower (Kd.R_new' ho0 (Kd.R_lt (by (with_reducible repeat (first | apply Kd.R_alloc | apply Kd.R_drewN | apply Kd.R_drew)); exact HO114.out))) (below_size (by repeat (first | (with_reducible first | exact HB.out | apply below_alloc | apply pw_below_drewN | apply below_drew1) | exact HB.out)))); have n2_ := Aside0.mk (below_step (by repeat (first | (with_reducible first | exact HB.out | apply below_alloc | apply pw_below_drewN | apply below_drew1) | exact HB.out)) hb); clear HO114; clear HB; have HO114 := n0_; have HO117 := n1_; have HB := n2_; clear n0_ n1_ n2_; (try clear hb); (try clear hb2); (try clear hk); (try clear hi); (try clear ho0); obtain ⟨Ao23, co23, eo23⟩ := Kd.R_slice HO117.out; subst eo23) | ((with_reducible refine gate_builtin (b := .append) (xs := #[.tmp 29, .tmp 30]) rfl ?_); at_builtin; refine Kd.R_append_rows k35 (w0 := w) w.heap.size rfl (.tmp 29) (.tmp 30) 32 35 (.agg #[(.int .i64 0), (.int .i32 0)]) 16 rfl Try.underlying32 info35 rfl (by decide) (by omega) v113 t112 t115 _ _ _ (fun k_ => some k_ ≠ (.slice Ao23 t115.length co23 : Value).ownBlock) (fun _ => False) rfl rfl ?aO ?aR (fun _ _ h => h) (fun _ h => h.elim) ?aF ?aB ?aS ?aL ?_; (case aR => repeat (first | exact (Kd.R_reads' HO117.out).2.2 | (with_reducible refine Kd.C_alloc ?_ _) | (with_reducible refine Kd.C_drewN ?_ _) | (with_reducible refine Kd.C_drew ?_))); (case aB => exact (by repeat (first | (with_reducible first | exact HB.out | apply below_alloc | apply pw_below_drewN | apply below_drew1) | exact HB.out))); (case aF => exact (fun k_ hk => Kd.fresh' (Kd.R_lt (by (with_reducible repeat (first | apply Kd.R_alloc | apply Kd.R_drewN | apply Kd.R_drew)); exact HO117.out)) k_ hk)); (case aO => exact (by (with_reducible repeat (first | apply Kd.R_alloc | apply Kd.R_drewN | apply Kd.R_drew)); exact Kd.R_mono HO114.out (fun _ hk => hk.2))); (case aS => exact (below_size (by repeat (first | (with_reducible first | exact HB.out | apply below_alloc | apply pw_below_drewN | apply below_drew1) | exact HB.out)))); (case aL => have := LMc10.out; omega); intro v119 w22 ho hb hg hat; rw [← Ny118.out] at ho; have n0_ := Aside0.mk (Kd.R_after (ok := (fun _ => True)) (by (with_reducible repeat (first | apply Kd.R_alloc | apply Kd.R_drewN | apply Kd.R_drew)); exact HO117.out) hg hat); have n1_ := Aside0.mk (hb); have n2_ := Aside0.mk (ho); clear HO117; clear HB; clear HO114; have HO117 := n0_; have HB := n1_; have HO120 := n2_; clear n0_ n1_ n2_; clear ho hb hg hat; obtain ⟨Ao24, co24, eo24⟩ := Kd.R_slice HO120.out; subst eo24) | ((with_reducible refine gate_callee (f := 9) rfl ?_); refine goesL_ (some 33) rfl rfl Try.func9 (by kernel_rfl) rfl #[.slice Ao24 y118.length co24, .int .i64 a0] rfl (by (try simp only [List.map_toArray, List.map_cons, List.map_nil]); first | done | rfl | (simp only [List.length_drop, List.length_take]; rfl)) ?_; (with_reducible refine (eacc_find.calls kj1 _ _ y118 a0 t121 false _ ?side1 ?side2 A11.out).mono ?_); (case side1 => repeat (first | exact (Kd.R_reads' HO120.out).2.2 | (with_reducible refine Kd.C_alloc ?_ _) | (with_reducible refine Kd.C_drewN ?_ _) | (with_reducible refine Kd.C_drew ?_))); (case side2 => exact (Kd.R_reads' HO120.out).2.1); rintro e w25 ⟨rfl, hb⟩; refine ⟨_, rfl, ?_⟩; have n0_ := Aside0.mk (Kd.R_below (by (with_reducible repeat (first | apply Kd.R_alloc | apply Kd.R_drewN | apply Kd.R_drew)); exact HO117.out) hb); have n1_ := Aside0.mk (Kd.R_below (by (with_reducible repeat (first | apply Kd.R_alloc | apply Kd.R_drewN | apply Kd.R_drew)); exact HO120.out) hb); have n2_ := Aside0.mk (below_step (by repeat (first | (with_reducible first | exact HB.out | apply below_alloc | apply pw_below_drewN | apply below_drew1) | exact HB.out)) hb); clear HO117; clear HO120; clear HB; have HO117 := n0_; have HO120 := n1_; have HB := n2_; clear n0_ n1_ n2_; (try clear hb); (try clear hb2); (try clear hk); (try clear hi)) | ((with_reducible refine gate_callee (f := 12) rfl ?_); refine goesL_ (some 39) rfl rfl Try.func12 (by kernel_rfl) rfl #[.int .i64 a0] rfl (by (try simp only [List.map_toArray, List.map_cons, List.map_nil]); first | done | rfl | (simp only [List.length_drop, List.length_take]; rfl)) ?_; (with_reducible refine (eacc_ideograph.calls a0 t123 t124 _ A19.out).mono ?_); rintro e w26 ⟨rfl, hb⟩; refine ⟨_, rfl, ?_⟩; have n0_ := Aside0.mk (Kd.R_below (by (with_reducible repeat (first | apply Kd.R_alloc | apply Kd.R_drewN | apply Kd.R_drew)); exact HO117.out) hb); have n1_ := Aside0.mk (Kd.R_below (by (with_reducible repeat (first | apply Kd.R_alloc | apply Kd.R_drewN | apply Kd.R_drew)); exact HO120.out) hb); have n2_ := Aside0.mk (below_step (by repeat (first | (with_reducible first | exact HB.out | apply below_alloc | apply pw_below_drewN | apply below_drew1) | exact HB.out)) hb); clear HO117; clear HO120; clear HB; have HO117 := n0_; have HO120 := n1_; have HB := n2_; clear n0_ n1_ n2_; (try clear hb); (try clear hb2); (try clear hk); (try clear hi)))
          go_ret2
          exact ⟨by first | rfl | (simp [errW_none, errW_some] <;> rfl) | (simp [*, errW_none, errW_some] <;> rfl), by repeat (first | (with_reducible first | exact HB.out | apply below_alloc | apply pw_below_drewN | apply below_drew1) | exact HB.out)⟩
      · rw [if_neg c10] at H
        exact absurd H (by simp)

/-! ### an iterator over the characters' bytes -/
/-- The iterator in block IT stands ahead of the character number x. -/
def IterAt (w : World) (IT : Nat) (x : Int) : Prop := ∃ j : Nat, x = j ∧ j ≤ 175 ∧ w.heap[IT]? = some (.stringIter runesS (3 * j))
theorem IterAt.lt {w : World} {IT : Nat} {x : Int} (h : IterAt w IT x) : IT < w.heap.size := by
  obtain ⟨j, _, _, hh⟩ := h
  exact (Array.getElem?_eq_some_iff.1 hh).1
theorem IterAt.next {w : World} {IT : Nat} {x : Int} (h : IterAt w IT x) (ty : TypeId) (hx : x < 175) : (Instr.next (.pointer (some ⟨IT, 0, none⟩)) true ty).run Try.prog w = .ok (.tuple #[.bool true, .int .i64 (3 * x), .int .i32 (rd runes x)]) (w.iterAt IT runesS (3 * (x.toNat + 1))) := by
  obtain ⟨j, rfl, _, hh⟩ := h
  obtain ⟨d1, d2⟩ := runesS_at j (by omega)
  have := Lib.run_next_any_at (P := Try.prog) w IT runesS (3 * j) ty hh (by rw [runesS_size]; omega)
  rw [d1, d2] at this
  rw [Int.toNat_natCast, show 3 * (j + 1) = 3 * j + 3 by omega, show (3 : Int) * (j : Int) = ((3 * j : Nat) : Int) by omega]
  exact this
theorem IterAt.step {w : World} {IT : Nat} {x : Int} (h : IterAt w IT x) (hx : x < 175) : IterAt (w.iterAt IT runesS (3 * (x.toNat + 1))) IT (wrap64 (x + 1)) := by
  obtain ⟨j, rfl, _, hh⟩ := h
  rw [Int.toNat_natCast]
  exact ⟨j + 1, by unfold wrap64; omega, by omega, Lib.iterAt_heap w IT runesS (3 * j) (3 * (j + 1)) hh⟩
theorem IterAt.grown {w w1 : World} {IT : Nat} {x : Int} {row : Option Nat} (h : IterAt w IT x) (hg : w.grownBy w1 row) (hne : some IT ≠ row) : IterAt w1 IT x := by
  have hlt := h.lt
  obtain ⟨j, hx, hj, hh⟩ := h
  exact ⟨j, hx, hj, (hg.block IT hlt hne).trans hh⟩
theorem IterAt.done {w : World} {IT : Nat} {x : Int} (h : IterAt w IT x) (ty : TypeId) (hx : ¬ x < 175) : (Instr.next (.pointer (some ⟨IT, 0, none⟩)) true ty).run Try.prog w = .ok (.tuple #[.bool false]) w := by
  obtain ⟨j, rfl, hj, hh⟩ := h
  exact Lib.run_next_end_at w IT runesS (3 * j) ty hh (by rw [runesS_size]; omega)

/-! ### eacc_all: function 13 -/
mutual
def eacc_all.l0 : Nat → List (S35) → Int → Option ((List (S35)))
  | 0, _, _ => none
  | k + 1, x1, x2 => if x2 ≤ 6890611 then (if x1.length < 8796093022208 then (eacc_all.l0 k (x1 ++ [(⟨x2, wrap32 (12353 + (wrap32 (wrap64 (x2 - 6890529))))⟩ : S35)]) (wrap64 (x2 + 1))) else (none)) else (eacc_all.l1 k x1 6890785)
def eacc_all.l1 : Nat → List (S35) → Int → Option ((List (S35)))
  | 0, _, _ => none
  | k + 1, x1, x3 => if x3 ≤ 6890870 then (if x1.length < 8796093022208 then (eacc_all.l1 k (x1 ++ [(⟨x3, wrap32 (12449 + (wrap32 (wrap64 (x3 - 6890785))))⟩ : S35)]) (wrap64 (x3 + 1))) else (none)) else (eacc_all.l2 k x1 0)
def eacc_all.l2 : Nat → List (S35) → Int → Option ((List (S35)))
  | 0, _, _ => none
  | k + 1, x1, x4 => if x4 < 175 then (if x1.length < 8796093022208 then (eacc_all.l2 k (x1 ++ [(⟨wrap64 ((wrap64 (2175009 + (wrap64 ((wrap64 (Int.tdiv x4 94)) * 256)))) + (Int.tmod x4 94)), rd runes x4⟩ : S35)]) (wrap64 (x4 + 1))) else (none)) else (some x1)
end
def eacc_all.f (k : Nat)  : Option ((List (S35))) := (eacc_signs.f).bind fun t125 => ((eacc_others.f).bind fun t128 => (if t125.length + t128.length < 8796093022208 then (eacc_all.l0 k (t125 ++ t128) 6890529) else (none)))
theorem eacc_all.mono_l : ∀ k, (∀ y0 y1, LeO (eacc_all.l0 k y0 y1) (eacc_all.l0 (k + 1) y0 y1)) ∧ (∀ y0 y1, LeO (eacc_all.l1 k y0 y1) (eacc_all.l1 (k + 1) y0 y1)) ∧ (∀ y0 y1, LeO (eacc_all.l2 k y0 y1) (eacc_all.l2 (k + 1) y0 y1))
  | 0 => ⟨fun _ _ r h => by simp [eacc_all.l0] at h, fun _ _ r h => by simp [eacc_all.l1] at h, fun _ _ r h => by simp [eacc_all.l2] at h⟩
  | k + 1 => by
    obtain ⟨ih0, ih1, ih2⟩ := eacc_all.mono_l k
    refine ⟨?_, ?_, ?_⟩
    · intro y0 y1
      unfold eacc_all.l0
      repeat' first
      | (with_reducible exact ih0 _ _)
      | (with_reducible exact ih1 _ _)
      | (with_reducible exact ih2 _ _)
      | (with_reducible exact LeO.refl _)
      | (with_reducible exact LeO.none _)
      | (with_reducible refine LeO.ite ?_ ?_)
      | (with_reducible refine LeO.bind ?_ (fun _ => ?_))
      | exact ih0 _ _
      | exact ih1 _ _
      | exact ih2 _ _
      | exact LeO.none _
      | refine LeO.ite ?_ ?_
      | refine LeO.bind ?_ (fun _ => ?_)
    · intro y0 y1
      unfold eacc_all.l1
      repeat' first
      | (with_reducible exact ih0 _ _)
      | (with_reducible exact ih1 _ _)
      | (with_reducible exact ih2 _ _)
      | (with_reducible exact LeO.refl _)
      | (with_reducible exact LeO.none _)
      | (with_reducible refine LeO.ite ?_ ?_)
      | (with_reducible refine LeO.bind ?_ (fun _ => ?_))
      | exact ih0 _ _
      | exact ih1 _ _
      | exact ih2 _ _
      | exact LeO.none _
      | refine LeO.ite ?_ ?_
      | refine LeO.bind ?_ (fun _ => ?_)
    · intro y0 y1
      unfold eacc_all.l2
      repeat' first
      | (with_reducible exact ih0 _ _)
      | (with_reducible exact ih1 _ _)
      | (with_reducible exact ih2 _ _)
      | (with_reducible exact LeO.refl _)
      | (with_reducible exact LeO.none _)
      | (with_reducible refine LeO.ite ?_ ?_)
      | (with_reducible refine LeO.bind ?_ (fun _ => ?_))
      | exact ih0 _ _
      | exact ih1 _ _
      | exact ih2 _ _
      | exact LeO.none _
      | refine LeO.ite ?_ ?_
      | refine LeO.bind ?_ (fun _ => ?_)
theorem eacc_all.mono : ∀ k, LeO (eacc_all.f k ) (eacc_all.f (k + 1) ) := by
  intro  k
  obtain ⟨ih0, ih1, ih2⟩ := eacc_all.mono_l k
  unfold eacc_all.f
  repeat' first
      | (with_reducible exact ih0 _ _)
      | (with_reducible exact ih1 _ _)
      | (with_reducible exact ih2 _ _)
      | (with_reducible exact LeO.refl _)
      | (with_reducible exact LeO.none _)
      | (with_reducible refine LeO.ite ?_ ?_)
      | (with_reducible refine LeO.bind ?_ (fun _ => ?_))
      | exact ih0 _ _
      | exact ih1 _ _
      | exact ih2 _ _
      | exact LeO.none _
      | refine LeO.ite ?_ ?_
      | refine LeO.bind ?_ (fun _ => ?_)
set_option maxHeartbeats 8000000 in
set_option maxRecDepth 100000 in
theorem eacc_all.calls (k : Nat)  (r : List (S35)) (w : World) (h : eacc_all.f k  = some r) :
    Calls Try.prog 13 #[] w fun e w' => ∃ v0_ : Value, e = .returned (v0_) ∧ Kd.R k35 35 w' w.heap.size (fun _ => True) v0_ r ∧ Below w.heap.size w w' := by
  have hu35 := Try.underlying35
  have HB := Aside0.mk (Below.refl w.heap.size w)
  have H : ((eacc_signs.f).bind fun t125 => ((eacc_others.f).bind fun t128 => (if t125.length + t128.length < 8796093022208 then (eacc_all.l0 k (t125 ++ t128) 6890529) else (none)))) = some r := h
  clear h
  replace H := Option.bind_eq_some_iff.mp H
  obtain ⟨t125, A10, H⟩ := H
  replace H : ((eacc_others.f).bind fun t128 => (if t125.length + t128.length < 8796093022208 then (eacc_all.l0 k (t125 ++ t128) 6890529) else (none))) = some r := H
  have A1 := Aside0.mk A10
  clear A10
  replace H := Option.bind_eq_some_iff.mp H
  obtain ⟨t128, A20, H⟩ := H
  replace H : (if t125.length + t128.length < 8796093022208 then (eacc_all.l0 k (t125 ++ t128) 6890529) else (none)) = some r := H
  have A2 := Aside0.mk A20
  clear A20
  by_cases c3 : t125.length + t128.length < 8796093022208
  · rw [if_pos c3] at H
    have LMc3 := Aside0.mk c3
    clear c3
    obtain ⟨y131, hy131⟩ : ∃ y_ : List (S35), y_ = (t125 ++ t128) := ⟨_, rfl⟩
    replace H : (eacc_all.l0 k y131 6890529) = some r := by first | (rw [hy131]; with_reducible exact H) | (have H2_ := (Option.bind_some _ _).symm.trans H; rw [hy131]; with_reducible exact H2_) | (have H2_ := (Option.bind_some _ _).symm.trans H; with_reducible exact H2_) | with_reducible exact H | (rw [hy131]; exact H) | exact H
    have Ny131 := Aside0.mk hy131
    clear hy131
    have H' := Aside0.mk H
    clear H
    go_enter Try.func13, Try.ntmps13
    go_wp2_with (first | ((with_reducible refine gate_callee (f := 10) rfl ?_); refine goesL_ (some 7) rfl rfl Try.func10 (by kernel_rfl) rfl #[] rfl (by (try simp only [List.map_toArray, List.map_cons, List.map_nil]); first | done | rfl | (simp only [List.length_drop, List.length_take]; rfl)) ?_; (with_reducible refine (eacc_signs.calls  t125 _ A1.out).mono ?_); rintro e w4 ⟨v126, rfl, ho0, hb⟩; refine ⟨_, rfl, ?_⟩; have n0_ := Aside0.mk (Kd.R_lower ho0 (below_size (by repeat (first | (with_reducible first | exact HB.out | apply below_alloc | apply pw_below_drewN | apply below_drew1) | exact HB.out)))); have n1_ := Aside0.mk (below_step (by repeat (first | (with_reducible first | exact HB.out | apply below_alloc | apply pw_below_drewN | apply below_drew1) | exact HB.out)) hb); clear HB; have HO127 := n0_; have HB := n1_; clear n0_ n1_; (try clear hb); (try clear hb2); (try clear hk); (try clear hi); (try clear ho0)) | ((with_reducible refine gate_callee (f := 11) rfl ?_); refine goesL_ (some 8) rfl rfl Try.func11 (by kernel_rfl) rfl #[] rfl (by (try simp only [List.map_toArray, List.map_cons, List.map_nil]); first | done | rfl | (simp only [List.length_drop, List.length_take]; rfl)) ?_; (with_reducible refine (eacc_others.calls  t128 _ A2.out).mono ?_); rintro e w5 ⟨v129, rfl, ho0, hb⟩; refine ⟨_, rfl, ?_⟩; have n0_ := Aside0.mk (Kd.R_elder' (by (with_reducible repeat (first | apply Kd.R_alloc | apply Kd.R_drewN | apply Kd.R_drew)); exact HO127.out) (Kd.R_base ho0) hb); have n1_ := Aside0.mk (Kd.R_lower (Kd.R_new' ho0 (Kd.R_lt (by (with_reducible repeat (first | apply Kd.R_alloc | apply Kd.R_drewN | apply Kd.R_drew)); exact HO127.out))) (below_size (by repeat (first | (with_reducible first | exact HB.out | apply below_alloc | apply pw_below_drewN | apply below_drew1) | exact HB.out)))); have n2_ := Aside0.mk (below_step (by repeat (first | (with_reducible first | exact HB.out | apply below_alloc | apply pw_below_drewN | apply below_drew1) | exact HB.out)) hb); clear HO127; clear HB; have HO127 := n0_; have HO130 := n1_; have HB := n2_; clear n0_ n1_ n2_; (try clear hb); (try clear hb2); (try clear hk); (try clear hi); (try clear ho0); obtain ⟨Ao7, co7, eo7⟩ := Kd.R_slice HO130.out; subst eo7) | ((with_reducible refine gate_builtin (b := .append) (xs := #[.tmp 7, .tmp 8]) rfl ?_); at_builtin; refine Kd.R_append_rows k35 (w0 := w) w.heap.size rfl (.tmp 7) (.tmp 8) 32 35 (.agg #[(.int .i64 0), (.int .i32 0)]) 16 rfl Try.underlying32 info35 rfl (by decide) (by omega) v126 t125 t128 _ _ _ (fun k_ => some k_ ≠ (.slice Ao7 t128.length co7 : Value).ownBlock) (fun _ => False) rfl rfl ?aO ?aR (fun _ _ h => h) (fun _ h => h.elim) ?aF ?aB ?aS ?aL ?_; (case aR => repeat (first | exact (Kd.R_reads' HO130.out).2.2 | (with_reducible refine Kd.C_alloc ?_ _) | (with_reducible refine Kd.C_drewN ?_ _) | (with_reducible refine Kd.C_drew ?_))); (case aB => exact (by repeat (first | (with_reducible first | exact HB.out | apply below_alloc | apply pw_below_drewN | apply below_drew1) | exact HB.out))); (case aF => exact (fun k_ hk => Kd.fresh' (Kd.R_lt (by (with_reducible repeat (first | apply Kd.R_alloc | apply Kd.R_drewN | apply Kd.R_drew)); exact HO130.out)) k_ hk)); (case aO => exact (by (with_reducible repeat (first | apply Kd.R_alloc | apply Kd.R_drewN | apply Kd.R_drew)); exact Kd.R_mono HO127.out (fun _ hk => hk.2))); (case aS => exact (below_size (by repeat (first | (with_reducible first | exact HB.out | apply below_alloc | apply pw_below_drewN | apply below_drew1) | exact HB.out)))); (case aL => have := LMc3.out; omega); intro v132 w6 ho hb hg hat; rw [← Ny131.out] at ho; have n0_ := Aside0.mk (Kd.R_after (ok := (fun _ => True)) (by (with_reducible repeat (first | apply Kd.R_alloc | apply Kd.R_drewN | apply Kd.R_drew)); exact HO130.out) hg hat); have n1_ := Aside0.mk (hb); have n2_ := Aside0.mk (ho); clear HO130; clear HB; clear HO127; have HO130 := n0_; have HB := n1_; have HO133 := n2_; clear n0_ n1_ n2_; clear ho hb hg hat))
    go_loopg [1, 2] k (fun kq v1 v2 w' => ∃ (x1_1 : List (S35)) (x2_1 : Int), v2 = .int .i64 x2_1 ∧ Aside0 (eacc_all.l0 kq x1_1 x2_1 = some r) ∧ Aside0 (kq ≤ k) ∧ Aside0 (Kd.R k35 35 w' w.heap.size (fun _ => True) v1 x1_1) ∧ Aside0 (Below w.heap.size w w'))
    case atStart => exact ⟨(y131), (6890529), (by first | rfl | (simp; done) | (simp [*]; done)), H', ⟨Nat.le_refl _⟩, ⟨by (with_reducible repeat (first | apply Kd.R_alloc | apply Kd.R_drewN | apply Kd.R_drew)); exact Kd.R_mono HO133.out (fun _ hk => trivial)⟩, ⟨by repeat (first | (with_reducible first | exact HB.out | apply below_alloc | apply pw_below_drewN | apply below_drew1) | exact HB.out)⟩⟩
    case round =>
      clear H'
      try clear c1
      try clear p2
      try clear c3
      obtain ⟨x1_1, x2_1, rfl, HA, HK1, HO_1, HB⟩ := hrel
      cases gk with
      | zero => exact absurd HA.out (by simp [eacc_all.l0])
      | succ k1 =>
        have H := HA.out
        clear HA
        simp only [eacc_all.l0] at H
        by_cases c8 : x2_1 ≤ 6890611
        · rw [if_pos c8] at H
          have c8b0 : decide (x2_1 ≤ 6890611) = true := decide_eq_true c8
          clear c8
          by_cases c9 : x1_1.length < 8796093022208
          · rw [if_pos c9] at H
            have LMc9 := Aside0.mk c9
            clear c9
            obtain ⟨y134, hy134⟩ : ∃ y_ : List (S35), y_ = (x1_1 ++ [(⟨x2_1, wrap32 (12353 + (wrap32 (wrap64 (x2_1 - 6890529))))⟩ : S35)]) := ⟨_, rfl⟩
            replace H : (eacc_all.l0 k1 y134 (wrap64 (x2_1 + 1))) = some r := by first | (rw [hy134]; with_reducible exact H) | (have H2_ := (Option.bind_some _ _).symm.trans H; rw [hy134]; with_reducible exact H2_) | (have H2_ := (Option.bind_some _ _).symm.trans H; with_reducible exact H2_) | with_reducible exact H | (rw [hy134]; exact H) | exact H
            have Ny134 := Aside0.mk hy134
            clear hy134
            have H' := Aside0.mk H
            clear H
            go_wp2_with (first | ((with_reducible refine gate_builtin (b := .append) (xs := #[.tmp 14, .tmp 21]) rfl ?_); at_builtin; refine Kd.R_append k35 (w0 := w) w.heap.size rfl (.tmp 14) (.tmp 21) 32 35 (.agg #[(.int .i64 0), (.int .i32 0)]) 16 rfl Try.underlying32 info35 rfl (by decide) (by omega) u1 x1_1 (⟨x2_1, wrap32 (12353 + (wrap32 (wrap64 (x2_1 - 6890529))))⟩ : S35) [.int .i64 x2_1, .int .i32 (wrap32 (12353 + (wrap32 (wrap64 (x2_1 - 6890529)))))] (fun _ => True) (fun _ => False) rfl rfl ?aP (fun _ hk => hk.elim) ?aF ?aO ?aB ?aS ?aL ?_; (case aP => exact k35_mkM _ _ _ (⟨x2_1, wrap32 (12353 + (wrap32 (wrap64 (x2_1 - 6890529))))⟩ : S35)); (case aB => exact (by repeat (first | (with_reducible first | exact HB.out | apply below_alloc | apply pw_below_drewN | apply below_drew1) | exact HB.out))); (case aF => exact (fun _ _ => trivial)); (case aO => exact (by (with_reducible repeat (first | apply Kd.R_alloc | apply Kd.R_drewN | apply Kd.R_drew)); exact HO_1.out)); (case aS => exact (below_size (by repeat (first | (with_reducible first | exact HB.out | apply below_alloc | apply pw_below_drewN | apply below_drew1) | exact HB.out)))); (case aL => have := LMc9.out; omega); intro v135 w10 ho hb hg hat; rw [← Ny134.out] at ho; have n0_ := Aside0.mk (hb); have n1_ := Aside0.mk (ho); clear HB; clear HO_1; have HB := n0_; have HO136 := n1_; clear n0_ n1_; clear ho hb hg hat))
            go_roundg k1
            case measure => have := HK1.out; omega
            case rel => exact ⟨(y134), (wrap64 (x2_1 + 1)), (by first | rfl | (simp; done) | (simp [*]; done)), H', ⟨by have := HK1.out; omega⟩, ⟨by (with_reducible repeat (first | apply Kd.R_alloc | apply Kd.R_drewN | apply Kd.R_drew)); exact HO136.out⟩, ⟨by repeat (first | (with_reducible first | exact HB.out | apply below_alloc | apply pw_below_drewN | apply below_drew1) | exact HB.out)⟩⟩
          · rw [if_neg c9] at H
            exact absurd H (by simp)
        · rw [if_neg c8] at H
          have c8b0 : decide (x2_1 ≤ 6890611) = false := decide_eq_false c8
          clear c8
          have H' := Aside0.mk H
          clear H
          go_wp2
          go_loopg [1, 3] k1 (fun kq v1 v3 w' => ∃ (x1_2 : List (S35)) (x3_2 : Int), v3 = .int .i64 x3_2 ∧ Aside0 (eacc_all.l1 kq x1_2 x3_2 = some r) ∧ Aside0 (kq ≤ k1) ∧ Aside0 (Kd.R k35 35 w' w.heap.size (fun _ => True) v1 x1_2) ∧ Aside0 (Below w.heap.size w w'))
          case atStart => exact ⟨(x1_1), (6890785), (by first | rfl | (simp; done) | (simp [*]; done)), H', ⟨Nat.le_refl _⟩, ⟨by (with_reducible repeat (first | apply Kd.R_alloc | apply Kd.R_drewN | apply Kd.R_drew)); exact HO_1.out⟩, ⟨by repeat (first | (with_reducible first | exact HB.out | apply below_alloc | apply pw_below_drewN | apply below_drew1) | exact HB.out)⟩⟩
          case round =>
            clear H'
            try clear c1
            try clear p2
            try clear c3
            try clear p3
            try clear p6
            try clear c8
            try clear c8b0
            try clear c9
            try clear c10
            try clear p2
            obtain ⟨x1_2, x3_2, rfl, HA, HK2, HO_1, HB⟩ := hrel
            cases gk with
            | zero => exact absurd HA.out (by simp [eacc_all.l1])
            | succ k2 =>
              have H := HA.out
              clear HA
              simp only [eacc_all.l1] at H
              by_cases c11 : x3_2 ≤ 6890870
              · rw [if_pos c11] at H
                have c11b0 : decide (x3_2 ≤ 6890870) = true := decide_eq_true c11
                clear c11
                by_cases c12 : x1_2.length < 8796093022208
                · rw [if_pos c12] at H
                  have LMc12 := Aside0.mk c12
                  clear c12
                  obtain ⟨y137, hy137⟩ : ∃ y_ : List (S35), y_ = (x1_2 ++ [(⟨x3_2, wrap32 (12449 + (wrap32 (wrap64 (x3_2 - 6890785))))⟩ : S35)]) := ⟨_, rfl⟩
                  replace H : (eacc_all.l1 k2 y137 (wrap64 (x3_2 + 1))) = some r := by first | (rw [hy137]; with_reducible exact H) | (have H2_ := (Option.bind_some _ _).symm.trans H; rw [hy137]; with_reducible exact H2_) | (have H2_ := (Option.bind_some _ _).symm.trans H; with_reducible exact H2_) | with_reducible exact H | (rw [hy137]; exact H) | exact H
                  have Ny137 := Aside0.mk hy137
                  clear hy137
                  have H' := Aside0.mk H
                  clear H
                  go_wp2_with (first | ((with_reducible refine gate_builtin (b := .append) (xs := #[.tmp 27, .tmp 34]) rfl ?_); at_builtin; refine Kd.R_append k35 (w0 := w) w.heap.size rfl (.tmp 27) (.tmp 34) 32 35 (.agg #[(.int .i64 0), (.int .i32 0)]) 16 rfl Try.underlying32 info35 rfl (by decide) (by omega) u1 x1_2 (⟨x3_2, wrap32 (12449 + (wrap32 (wrap64 (x3_2 - 6890785))))⟩ : S35) [.int .i64 x3_2, .int .i32 (wrap32 (12449 + (wrap32 (wrap64 (x3_2 - 6890785)))))] (fun _ => True) (fun _ => False) rfl rfl ?aP (fun _ hk => hk.elim) ?aF ?aO ?aB ?aS ?aL ?_; (case aP => exact k35_mkM _ _ _ (⟨x3_2, wrap32 (12449 + (wrap32 (wrap64 (x3_2 - 6890785))))⟩ : S35)); (case aB => exact (by repeat (first | (with_reducible first | exact HB.out | apply below_alloc | apply pw_below_drewN | apply below_drew1) | exact HB.out))); (case aF => exact (fun _ _ => trivial)); (case aO => exact (by (with_reducible repeat (first | apply Kd.R_alloc | apply Kd.R_drewN | apply Kd.R_drew)); exact HO_1.out)); (case aS => exact (below_size (by repeat (first | (with_reducible first | exact HB.out | apply below_alloc | apply pw_below_drewN | apply below_drew1) | exact HB.out)))); (case aL => have := LMc12.out; omega); intro v138 w13 ho hb hg hat; rw [← Ny137.out] at ho; have n0_ := Aside0.mk (hb); have n1_ := Aside0.mk (ho); clear HB; clear HO_1; have HB := n0_; have HO139 := n1_; clear n0_ n1_; clear ho hb hg hat))
                  go_roundg k2
                  case measure => have := HK1.out; have := HK2.out; omega
                  case rel => exact ⟨(y137), (wrap64 (x3_2 + 1)), (by first | rfl | (simp; done) | (simp [*]; done)), H', ⟨by have := HK1.out; have := HK2.out; omega⟩, ⟨by (with_reducible repeat (first | apply Kd.R_alloc | apply Kd.R_drewN | apply Kd.R_drew)); exact HO139.out⟩, ⟨by repeat (first | (with_reducible first | exact HB.out | apply below_alloc | apply pw_below_drewN | apply below_drew1) | exact HB.out)⟩⟩
                · rw [if_neg c12] at H
                  exact absurd H (by simp)
              · rw [if_neg c11] at H
                have c11b0 : decide (x3_2 ≤ 6890870) = false := decide_eq_false c11
                clear c11
                have H' := Aside0.mk H
                clear H
                go_wp2
                generalize hS : ByteArray.mk (List.toArray _) = S
                obtain rfl : S = runesS := hS.symm.trans (by kernel_rfl)
                clear hS
                obtain ⟨IT, hIT⟩ : ∃ IT, IT = wr.heap.size := ⟨_, rfl⟩
                have GIT := Aside0.mk (show w.heap.size ≤ IT by rw [hIT]; exact below_size HB.out)
                have n0_ := Aside0.mk (Kd.R_alloc (Kd.R_elderB HO_1.out IT (by rw [hIT]; exact Nat.le_refl _)) (.stringIter runesS 0))
                have n1_ := Aside0.mk (below_alloc HB.out (.stringIter runesS 0))
                have n2_ : Aside0 (IterAt (wr.iter runesS 0) IT 0) := ⟨⟨0, rfl, by omega, by rw [hIT]; exact World.iter_heap wr runesS 0⟩⟩
                rw [← hIT]
                clear hIT HO_1 HB
                have HO_1 := n0_
                have HB := n1_
                have HIT := n2_
                clear n0_ n1_ n2_
                go_loopg [1, 4] k2 (fun kq v1 v4 w' => ∃ (x1_3 : List (S35)) (x4_3 : Int), v4 = .int .i64 x4_3 ∧ Aside0 (eacc_all.l2 kq x1_3 x4_3 = some r) ∧ Aside0 (kq ≤ k2) ∧ Aside0 (Kd.R k35 35 w' w.heap.size (fun k_ => k_ ≠ IT) v1 x1_3) ∧ Aside0 (IterAt w' IT x4_3) ∧ Aside0 (Below w.heap.size w w'))
                case atStart => exact ⟨(x1_2), (0), (by first | rfl | (simp; done) | (simp [*]; done)), H', ⟨Nat.le_refl _⟩, ⟨Kd.R_mono HO_1.out (fun _ hk => hk.2)⟩, HIT, ⟨HB.out⟩⟩
                case round =>
                  clear H'
                  try clear c1
                  try clear p2
                  try clear c3
                  try clear p3
                  try clear p6
                  try clear c8
                  try clear c8b0
                  try clear c9
                  try clear c10
                  try clear c11
                  try clear c11b0
                  try clear c12
                  try clear c13
                  try clear p2
                  try clear p3
                  try clear p6
                  obtain ⟨x1_3, x4_3, rfl, HA, HK3, HO_1, HIT, HB⟩ := hrel
                  cases gk with
                  | zero => exact absurd HA.out (by simp [eacc_all.l2])
                  | succ k3 =>
                    have H := HA.out
                    clear HA
                    simp only [eacc_all.l2] at H
                    by_cases c14 : x4_3 < 175
                    · rw [if_pos c14] at H
                      have hnx : ∀ ty, (Instr.next (.pointer (some ⟨IT, 0, none⟩)) true ty).run Try.prog wr = .ok (.tuple #[.bool true, .int .i64 (3 * x4_3), .int .i32 (rd runes x4_3)]) (wr.iterAt IT runesS (3 * (x4_3.toNat + 1))) := fun ty => HIT.out.next ty c14
                      have n0_ := Aside0.mk (Kd.R_step (w1 := wr.iterAt IT runesS (3 * (x4_3.toNat + 1))) HO_1.out (fun k_ hk _ => Lib.iterAt_other wr IT k_ runesS _ hk))
                      have n1_ := Aside0.mk (HIT.out.step c14)
                      have n2_ := Aside0.mk (Lib.below_iterAt HB.out (k := IT) GIT.out runesS (3 * (x4_3.toNat + 1)))
                      clear HO_1 HB HIT c14
                      have HO_1 := n0_
                      have HIT := n1_
                      have HB := n2_
                      clear n0_ n1_ n2_
                      by_cases c15 : x1_3.length < 8796093022208
                      · rw [if_pos c15] at H
                        have LMc15 := Aside0.mk c15
                        clear c15
                        obtain ⟨y140, hy140⟩ : ∃ y_ : List (S35), y_ = (x1_3 ++ [(⟨wrap64 ((wrap64 (2175009 + (wrap64 ((wrap64 (Int.tdiv x4_3 94)) * 256)))) + (Int.tmod x4_3 94)), rd runes x4_3⟩ : S35)]) := ⟨_, rfl⟩
                        replace H : (eacc_all.l2 k3 y140 (wrap64 (x4_3 + 1))) = some r := by first | (rw [hy140]; with_reducible exact H) | (have H2_ := (Option.bind_some _ _).symm.trans H; rw [hy140]; with_reducible exact H2_) | (have H2_ := (Option.bind_some _ _).symm.trans H; with_reducible exact H2_) | with_reducible exact H | (rw [hy140]; exact H) | exact H
                        have Ny140 := Aside0.mk hy140
                        clear hy140
                        have H' := Aside0.mk H
                        clear H
                        go_wp2_with (first | ((with_reducible refine gate_builtin (b := .append) (xs := #[.tmp 40, .tmp 50]) rfl ?_); at_builtin; refine Kd.R_append k35 (w0 := w) w.heap.size rfl (.tmp 40) (.tmp 50) 32 35 (.agg #[(.int .i64 0), (.int .i32 0)]) 16 rfl Try.underlying32 info35 rfl (by decide) (by omega) u1 x1_3 (⟨wrap64 ((wrap64 (2175009 + (wrap64 ((wrap64 (Int.tdiv x4_3 94)) * 256)))) + (Int.tmod x4_3 94)), rd runes x4_3⟩ : S35) [.int .i64 (wrap64 ((wrap64 (2175009 + (wrap64 ((wrap64 (Int.tdiv x4_3 94)) * 256)))) + (Int.tmod x4_3 94))), .int .i32 (rd runes x4_3)] (fun k_ => k_ ≠ IT) (fun _ => False) rfl rfl ?aP (fun _ hk => hk.elim) ?aF ?aO ?aB ?aS ?aL ?_; (case aP => exact k35_mkM _ _ _ (⟨wrap64 ((wrap64 (2175009 + (wrap64 ((wrap64 (Int.tdiv x4_3 94)) * 256)))) + (Int.tmod x4_3 94)), rd runes x4_3⟩ : S35)); (case aB => exact (by repeat (first | (with_reducible first | exact HB.out | apply below_alloc | apply pw_below_drewN | apply below_drew1) | exact HB.out))); (case aF => exact (fun k_ hk he => by have := HIT.out.lt; omega)); (case aO => exact (by (with_reducible repeat (first | apply Kd.R_alloc | apply Kd.R_drewN | apply Kd.R_drew)); exact HO_1.out)); (case aS => exact (below_size (by repeat (first | (with_reducible first | exact HB.out | apply below_alloc | apply pw_below_drewN | apply below_drew1) | exact HB.out)))); (case aL => have := LMc15.out; omega); intro v141 w16 ho hb hg hat; rw [← Ny140.out] at ho; have n0_ := Aside0.mk (hb); have n1_ := Aside0.mk (ho); have n2_ := Aside0.mk (HIT.out.grown hg (Kd.R_away HO_1.out (fun _ hk => hk))); clear HB; clear HO_1; clear HIT; have HB := n0_; have HO142 := n1_; have HIT := n2_; clear n0_ n1_ n2_; clear ho hb hg hat))
                        go_roundg k3
                        case measure => have := HK1.out; have := HK2.out; have := HK3.out; omega
                        case rel => exact ⟨(y140), (wrap64 (x4_3 + 1)), (by first | rfl | (simp; done) | (simp [*]; done)), H', ⟨by have := HK1.out; have := HK2.out; have := HK3.out; omega⟩, ⟨by (with_reducible repeat (first | apply Kd.R_alloc | apply Kd.R_drewN | apply Kd.R_drew)); exact HO142.out⟩, HIT, ⟨by repeat (first | (with_reducible first | exact HB.out | apply below_alloc | apply pw_below_drewN | apply below_drew1) | exact HB.out)⟩⟩
                      · rw [if_neg c15] at H
                        exact absurd H (by simp)
                    · rw [if_neg c14] at H
                      have hnx : ∀ ty, (Instr.next (.pointer (some ⟨IT, 0, none⟩)) true ty).run Try.prog wr = .ok (.tuple #[.bool false]) wr := fun ty => HIT.out.done ty c14
                      clear c14
                      obtain rfl := Option.some.inj H
                      go_wp2
                      go_ret
                      exact ⟨_, by first | rfl | (simp [errW_none, errW_some] <;> rfl) | (simp [*, errW_none, errW_some] <;> rfl), Kd.R_mono HO_1.out (fun _ _ => trivial), by repeat (first | (with_reducible first | exact HB.out | apply below_alloc | apply pw_below_drewN | apply below_drew1) | exact HB.out)⟩
  · rw [if_neg c3] at H
    exact absurd H (by simp)

end Go.Proofs.Ytjkaagidifjjaaa.PEaccBytes
