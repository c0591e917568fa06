/- Functions and their walks: begun as a text of print.sh; the walk of amanuensislaw19_answers is mended by hand. -/
import Derived.Test.YtopdomaogmmklaaPLeaderParsesx0
import Derived.Test.YtopdomaogmmklaaPLeaderParsesx2
import Derived.Lib.SlBytesConst
namespace Go.Proofs.Ytopdomaogmmklaa.PLeaderParses
open Go.RowKit Go.Proofs.YtopdomaogmmklaaW.PrintWords Go.Proofs.YtopdomaogmmklaaW.PrintLast Go.Proofs.YtopdomaogmmklaaW.PrintMore
attribute [local go_sem] max2_int min2_int max_two min_two max_three min_three max_four min_four   -- for this text's walks alone
set_option linter.unusedVariables false
set_option linter.unusedSimpArgs false

/-! ### leader_Coding: function 12 -/
def leader_Coding.f (k : Nat) (a0 : ByteArray) : Option (Int) := (leader_Sound.f k a0).bind fun t114 => (if t114 = true then (if 9 < (a0.size : Int) then (if (bt a0 9) = 97 then (some 2) else (some 1)) else (none)) else (some 0))
theorem leader_Coding.mono : ∀ a0 k, LeO (leader_Coding.f k a0) (leader_Coding.f (k + 1) a0) := by
  intro a0 k
  unfold leader_Coding.f
  repeat' first
      | (with_reducible exact leader_Sound.mono _ _)
      | (with_reducible exact LeO.refl _)
      | (with_reducible exact LeO.none _)
      | (with_reducible refine LeO.ite ?_ ?_)
      | (with_reducible refine LeO.bind ?_ (fun _ => ?_))
      | exact leader_Sound.mono _ _
      | exact LeO.none _
      | refine LeO.ite ?_ ?_
      | refine LeO.bind ?_ (fun _ => ?_)
set_option maxHeartbeats 8000000 in
set_option maxRecDepth 100000 in
theorem leader_Coding.calls (k : Nat) (a0 : ByteArray) (r : Int) (w : World) (h : leader_Coding.f k a0 = some r) :
    Calls Try.prog 12 #[.string a0] w fun e w' => e = .returned (.int .i64 r) ∧ Drawn0 w w' := by
  have H : ((leader_Sound.f k a0).bind fun t114 => (if t114 = true then (if 9 < (a0.size : Int) then (if (bt a0 9) = 97 then (some 2) else (some 1)) else (none)) else (some 0))) = some r := h
  clear h
  replace H := Option.bind_eq_some_iff.mp H
  obtain ⟨t114, A20, H⟩ := H
  replace H : (if t114 = true then (if 9 < (a0.size : Int) then (if (bt a0 9) = 97 then (some 2) else (some 1)) else (none)) else (some 0)) = some r := H
  have A2 := Aside0.mk A20
  clear A20
  by_cases c3 : t114 = true
  · subst c3
    have H1 : (if 9 < (a0.size : Int) then (if (bt a0 9) = 97 then (some 2) else (some 1)) else (none)) = some r := by rw [if_pos rfl] at H; exact H
    clear H
    have H := H1
    clear H1
    by_cases c4 : 9 < (a0.size : Int)
    · rw [if_pos c4] at H
      have c4b0 : decide (9 < (a0.size : Int)) = true := decide_eq_true c4
      have c4b1 : decide (9 < a0.size) = true := decide_eq_true (by omega)
      clear c4
      by_cases c6 : (bt a0 9) = 97
      · rw [if_pos c6] at H
        have c6b0 : ((bt a0 9) == 97) = true := beq_iff_eq.mpr c6
        have c6b1 : ((bt a0 9) != 97) = false := bne_eq_false_iff_eq.mpr c6
        clear c6
        obtain rfl := Option.some.inj H
        go_enter Try.func12, Try.ntmps12
        go_wp2_with (first | ((with_reducible refine gate_callee (f := 10) rfl ?_); refine goesL_ (some 5) rfl rfl Try.func10 (by kernel_rfl) rfl #[.string a0] rfl (by (try simp only [List.map_toArray, List.map_cons, List.map_nil]); first | done | rfl | (simp only [List.length_drop, List.length_take]; rfl)) ?_; (with_reducible refine (leader_Sound.calls k a0 true _ A2.out).mono ?_); rintro e w' ⟨rfl, ⟨nd, rfl⟩⟩; refine ⟨_, rfl, ?_⟩; have p5 : 0 ≤ (9 : Int) := (by omega); have q5 : 9 < a0.size := (by have : (9 : Int) < (a0.size : Int) := of_decide_eq_true (by first | (with_reducible assumption) | assumption); omega); have hx5 : ∀ h : 9 < a0.size, ((a0[9]'h).toNat : Int) = bt a0 9 := bt_at a0 9; clear p5; have qi5 : (9 < (a0.size : Int)) = True := eq_true (of_decide_eq_true (by first | (with_reducible assumption) | assumption)); replace q5 := eq_true q5))
        go_ret
        exact ⟨by first | rfl | (simp; done) | (simp [*]; done), by repeat (first | exact Drawn0.refl _ | apply Drawn0.step)⟩
      · rw [if_neg c6] at H
        have c6b0 : ((bt a0 9) == 97) = false := beq_eq_false_iff_ne.mpr c6
        have c6b1 : ((bt a0 9) != 97) = true := bne_iff_ne.mpr c6
        obtain rfl := Option.some.inj H
        go_enter Try.func12, Try.ntmps12
        go_wp2_with (first | ((with_reducible refine gate_callee (f := 10) rfl ?_); refine goesL_ (some 5) rfl rfl Try.func10 (by kernel_rfl) rfl #[.string a0] rfl (by (try simp only [List.map_toArray, List.map_cons, List.map_nil]); first | done | rfl | (simp only [List.length_drop, List.length_take]; rfl)) ?_; (with_reducible refine (leader_Sound.calls k a0 true _ A2.out).mono ?_); rintro e w' ⟨rfl, ⟨nd, rfl⟩⟩; refine ⟨_, rfl, ?_⟩; have p5 : 0 ≤ (9 : Int) := (by omega); have q5 : 9 < a0.size := (by have : (9 : Int) < (a0.size : Int) := of_decide_eq_true (by first | (with_reducible assumption) | assumption); omega); have hx5 : ∀ h : 9 < a0.size, ((a0[9]'h).toNat : Int) = bt a0 9 := bt_at a0 9; clear p5; have qi5 : (9 < (a0.size : Int)) = True := eq_true (of_decide_eq_true (by first | (with_reducible assumption) | assumption)); replace q5 := eq_true q5))
        go_ret
        exact ⟨by first | rfl | (simp; done) | (simp [*]; done), by repeat (first | exact Drawn0.refl _ | apply Drawn0.step)⟩
    · rw [if_neg c4] at H
      exact absurd H (by simp)
  · replace c3 := Bool.eq_false_iff.mpr c3
    subst c3
    have H1 : (some 0) = some r := by rw [if_neg (show ¬ (false = true) by decide)] at H; exact H
    clear H
    have H := H1
    clear H1
    obtain rfl := Option.some.inj H
    go_enter Try.func12, Try.ntmps12
    go_wp2_with (first | ((with_reducible refine gate_callee (f := 10) rfl ?_); refine goesL_ (some 5) rfl rfl Try.func10 (by kernel_rfl) rfl #[.string a0] rfl (by (try simp only [List.map_toArray, List.map_cons, List.map_nil]); first | done | rfl | (simp only [List.length_drop, List.length_take]; rfl)) ?_; (with_reducible refine (leader_Sound.calls k a0 false _ A2.out).mono ?_); rintro e w' ⟨rfl, ⟨nd, rfl⟩⟩; refine ⟨_, rfl, ?_⟩))
    go_ret
    exact ⟨by first | rfl | (simp; done) | (simp [*]; done), by repeat (first | exact Drawn0.refl _ | apply Drawn0.step)⟩

/-- A row of bytes that a literal has made, whatever its mark is: it is read as it was written. -/
theorem const_reads (W : World) (xs : List Int) (m : Nat × Nat) (hn : xs.length ≤ 9223372036854775807) : Kd.C (Kd.int .u8) (W.alloc (.cells (xs.map (Value.int .u8)).toArray 5 m)) (some ⟨W.heap.size, 0, none⟩) xs.length xs := by
  refine Kd.C_of_reads (d := 0) (h1 := fun _ => rfl) ⟨rfl, hn, fun _ => ⟨_, rfl, fun j hj => ?_⟩⟩
  have hb : (W.alloc (.cells (xs.map (Value.int .u8)).toArray 5 m)).heap[W.heap.size]? = some (.cells (xs.map (Value.int .u8)).toArray 5 m) := by
    show (W.heap.push _)[W.heap.size]? = _
    simp
  have hg : ((xs.map (Value.int .u8)).toArray)[j]? = some (.int .u8 (xs.getD j 0)) := by
    simp [List.getD_eq_getElem?_getD, List.getElem?_eq_getElem hj]
  rw [add_plain]
  unfold World.cell?
  simp only
  rw [hb]
  simp only [Option.isSome_none, Bool.false_eq_true, if_false]
  exact hg

/-! ### amanuensislaw19_answers: function 7 -/
def amanuensislaw19_answers.f (k : Nat)  : Option (Bool) := (leader_Parse.f k (([48, 48, 48, 50, 54, 110, 97, 109, 32, 97, 50, 50, 48, 48, 48, 50, 53, 32, 97, 32, 52, 53, 48, 48] : List Int))).bind fun bt118 => (if bt118.2.2.1 = 0 then (if bt118.1 = 26 then (if bt118.2.1 = 25 then ((leader_Coding.f k (⟨#[48, 48, 48, 50, 54, 110, 97, 109, 32, 97, 50, 50, 48, 48, 48, 50, 53, 32, 97, 32, 52, 53, 48, 48]⟩ : ByteArray)).bind fun t123 => (some (t123 == 2))) else (some false)) else (some false)) else (some false))
theorem amanuensislaw19_answers.mono : ∀ k, LeO (amanuensislaw19_answers.f k ) (amanuensislaw19_answers.f (k + 1) ) := by
  intro  k
  unfold amanuensislaw19_answers.f
  repeat' first
      | (with_reducible exact leader_Coding.mono _ _)
      | (with_reducible exact leader_Parse.mono _ _)
      | (with_reducible exact LeO.refl _)
      | (with_reducible exact LeO.none _)
      | (with_reducible refine LeO.ite ?_ ?_)
      | (with_reducible refine LeO.bind ?_ (fun _ => ?_))
      | exact leader_Coding.mono _ _
      | exact leader_Parse.mono _ _
      | exact LeO.none _
      | refine LeO.ite ?_ ?_
      | refine LeO.bind ?_ (fun _ => ?_)
set_option maxHeartbeats 8000000 in
set_option maxRecDepth 100000 in
theorem amanuensislaw19_answers.calls (k : Nat)  (r : Bool) (w : World) (h : amanuensislaw19_answers.f k  = some r) :
    Calls Try.prog 7 #[] w fun e w' => e = .returned (.bool r) ∧ Below w.heap.size w w' := by
  have hu26 := Try.underlying26
  have HB := Aside0.mk (Below.refl w.heap.size w)
  have H : ((leader_Parse.f k (([48, 48, 48, 50, 54, 110, 97, 109, 32, 97, 50, 50, 48, 48, 48, 50, 53, 32, 97, 32, 52, 53, 48, 48] : List Int))).bind fun bt118 => (if bt118.2.2.1 = 0 then (if bt118.1 = 26 then (if bt118.2.1 = 25 then ((leader_Coding.f k (⟨#[48, 48, 48, 50, 54, 110, 97, 109, 32, 97, 50, 50, 48, 48, 48, 50, 53, 32, 97, 32, 52, 53, 48, 48]⟩ : ByteArray)).bind fun t123 => (some (t123 == 2))) else (some false)) else (some false)) else (some false))) = some r := h
  clear h
  obtain ⟨y115, hy115⟩ : ∃ y_ : List Int, y_ = (([48, 48, 48, 50, 54, 110, 97, 109, 32, 97, 50, 50, 48, 48, 48, 50, 53, 32, 97, 32, 52, 53, 48, 48] : List Int)) := ⟨_, rfl⟩
  replace H : ((leader_Parse.f k y115).bind fun bt118 => (if bt118.2.2.1 = 0 then (if bt118.1 = 26 then (if bt118.2.1 = 25 then ((leader_Coding.f k (⟨#[48, 48, 48, 50, 54, 110, 97, 109, 32, 97, 50, 50, 48, 48, 48, 50, 53, 32, 97, 32, 52, 53, 48, 48]⟩ : ByteArray)).bind fun t123 => (some (t123 == 2))) else (some false)) else (some false)) else (some false))) = some r := by first | (rw [hy115]; with_reducible exact H) | (have H2_ := (Option.bind_some _ _).symm.trans H; rw [hy115]; with_reducible exact H2_) | (have H2_ := (Option.bind_some _ _).symm.trans H; with_reducible exact H2_) | with_reducible exact H | (rw [hy115]; exact H) | exact H
  have Ny115 := Aside0.mk hy115
  clear hy115
  replace H := Option.bind_eq_some_iff.mp H
  obtain ⟨⟨t118, t119, t120, t121⟩, A10, H⟩ := H
  replace H : (if t120 = 0 then (if t118 = 26 then (if t119 = 25 then ((leader_Coding.f k (⟨#[48, 48, 48, 50, 54, 110, 97, 109, 32, 97, 50, 50, 48, 48, 48, 50, 53, 32, 97, 32, 52, 53, 48, 48]⟩ : ByteArray)).bind fun t123 => (some (t123 == 2))) else (some false)) else (some false)) else (some false)) = some r := H
  have A1 := Aside0.mk A10
  clear A10
  by_cases c2 : t120 = 0
  · rw [if_pos c2] at H
    have c2b0 : (t120 == 0) = true := beq_iff_eq.mpr c2
    have c2b1 : (t120 != 0) = false := bne_eq_false_iff_eq.mpr c2
    clear c2
    by_cases c3 : t118 = 26
    · rw [if_pos c3] at H
      have c3b0 : (t118 == 26) = true := beq_iff_eq.mpr c3
      have c3b1 : (t118 != 26) = false := bne_eq_false_iff_eq.mpr c3
      clear c3
      by_cases c4 : t119 = 25
      · rw [if_pos c4] at H
        have c4b0 : (t119 == 25) = true := beq_iff_eq.mpr c4
        have c4b1 : (t119 != 25) = false := bne_eq_false_iff_eq.mpr c4
        clear c4
        replace H := Option.bind_eq_some_iff.mp H
        obtain ⟨t123, A50, H⟩ := H
        replace H : (some (t123 == 2)) = some r := H
        have A5 := Aside0.mk A50
        clear A50
        obtain rfl := Option.some.inj H
        have eY := Ny115.out
        subst eY
        have kc := fun (w : World) (C : Array Value) (n c : Nat) => Lib.run_convert_bytes_const (P := Try.prog) w 22 5 C n c Try.underlying22 Try.underlying5
        go_enter Try.func7, Try.ntmps7
        go_wp2_with (fail)
        refine (leader_Parse.calls k (some ⟨w.heap.size, 0, none⟩) 24 ([48, 48, 48, 50, 54, 110, 97, 109, 32, 97, 50, 50, 48, 48, 48, 50, 53, 32, 97, 32, 52, 53, 48, 48] : List Int) t118 t119 t120 t121 _ ?side1 ?side2 A1.out).mono ?_
        case side1 => exact const_reads _ ([48, 48, 48, 50, 54, 110, 97, 109, 32, 97, 50, 50, 48, 48, 48, 50, 53, 32, 97, 32, 52, 53, 48, 48] : List Int) _ (by simp)
        case side2 => exact Nat.le_refl _
        rintro e w9 ⟨rfl, hb⟩
        have n1_ := Aside0.mk (below_step (by repeat (first | (with_reducible first | exact HB.out | apply below_alloc | apply pw_below_drewN | apply below_drew1) | exact HB.out)) hb)
        clear HB
        have HB := n1_
        clear n1_
        (try clear hb)
        (try clear hb2)
        (try clear hk)
        (try clear hi)
        go_wp2_with (first | ((with_reducible refine gate_dst (N := 3) rfl ?_); refine box_event ?hg (N := 3) ?hd (cs := #[.int .i64 0, .int .i64 0]) (t := 26) ?hr ?_; (case hd => rfl); (case hg => rfl); (case hr => first | (go_simp; done) | (go_simp; rfl)); intro gb122 hg w10 hbox hb; have n1_ := Aside0.mk (below_step (by repeat (first | (with_reducible first | exact HB.out | apply below_alloc | apply pw_below_drewN | apply below_drew1) | exact HB.out)) hb); have n2_ := Aside0.mk (hbox); have n3_ := Aside0.mk ((by rw [hg]; exact (below_size (by repeat (first | (with_reducible first | exact HB.out | apply below_alloc | apply pw_below_drewN | apply below_drew1) | exact HB.out))) : w.heap.size ≤ gb122)); have n4_ := Aside0.mk ((by rw [hg]; exact (below_size (by repeat (first | (with_reducible first | exact HB.out | apply below_alloc | apply pw_below_drewN | apply below_drew1) | exact HB.out))) : w.heap.size ≤ gb122)); clear HB; have HB := n1_; have BK122 := n2_; have GW122 := n3_; have GE122 := n4_; clear n1_ n2_ n3_ n4_; clear hb hbox hg; have hcz11_0 : w10.cell? ⟨gb122, 0, none⟩ = some (.int .i64 0) := (blk_cell BK122.out 0).trans rfl; have hcz11_1 : w10.cell? ⟨gb122, 1, none⟩ = some (.int .i64 0) := (blk_cell BK122.out 1).trans rfl; have hfz11_0 := blk_frozen BK122.out 0; have hfz11_1 := blk_frozen BK122.out 1) | (go_at_call 12; (with_reducible refine (leader_Coding.calls k (⟨#[48, 48, 48, 50, 54, 110, 97, 109, 32, 97, 50, 50, 48, 48, 48, 50, 53, 32, 97, 32, 52, 53, 48, 48]⟩ : ByteArray) t123 _ A5.out).mono ?_); rintro e w' ⟨rfl, ⟨nd, rfl⟩⟩))
        go_ret
        exact ⟨by first | rfl | (simp [errW_none, errW_some] <;> rfl) | (simp [*, errW_none, errW_some] <;> rfl), by repeat (first | (with_reducible first | exact HB.out | apply below_alloc | apply pw_below_drewN | apply below_drew1 | refine below_set ?_ GE122.out) | exact HB.out)⟩
      · rw [if_neg c4] at H
        have c4b0 : (t119 == 25) = false := beq_eq_false_iff_ne.mpr c4
        have c4b1 : (t119 != 25) = true := bne_iff_ne.mpr c4
        obtain rfl := Option.some.inj H
        have eY := Ny115.out
        subst eY
        have kc := fun (w : World) (C : Array Value) (n c : Nat) => Lib.run_convert_bytes_const (P := Try.prog) w 22 5 C n c Try.underlying22 Try.underlying5
        go_enter Try.func7, Try.ntmps7
        go_wp2_with (fail)
        refine (leader_Parse.calls k (some ⟨w.heap.size, 0, none⟩) 24 ([48, 48, 48, 50, 54, 110, 97, 109, 32, 97, 50, 50, 48, 48, 48, 50, 53, 32, 97, 32, 52, 53, 48, 48] : List Int) t118 t119 t120 t121 _ ?side1 ?side2 A1.out).mono ?_
        case side1 => exact const_reads _ ([48, 48, 48, 50, 54, 110, 97, 109, 32, 97, 50, 50, 48, 48, 48, 50, 53, 32, 97, 32, 52, 53, 48, 48] : List Int) _ (by simp)
        case side2 => exact Nat.le_refl _
        rintro e w15 ⟨rfl, hb⟩
        have n1_ := Aside0.mk (below_step (by repeat (first | (with_reducible first | exact HB.out | apply below_alloc | apply pw_below_drewN | apply below_drew1) | exact HB.out)) hb)
        clear HB
        have HB := n1_
        clear n1_
        (try clear hb)
        (try clear hb2)
        (try clear hk)
        (try clear hi)
        go_wp2_with (first | ((with_reducible refine gate_dst (N := 3) rfl ?_); refine box_event ?hg (N := 3) ?hd (cs := #[.int .i64 0, .int .i64 0]) (t := 26) ?hr ?_; (case hd => rfl); (case hg => rfl); (case hr => first | (go_simp; done) | (go_simp; rfl)); intro gb122 hg w16 hbox hb; have n1_ := Aside0.mk (below_step (by repeat (first | (with_reducible first | exact HB.out | apply below_alloc | apply pw_below_drewN | apply below_drew1) | exact HB.out)) hb); have n2_ := Aside0.mk (hbox); have n3_ := Aside0.mk ((by rw [hg]; exact (below_size (by repeat (first | (with_reducible first | exact HB.out | apply below_alloc | apply pw_below_drewN | apply below_drew1) | exact HB.out))) : w.heap.size ≤ gb122)); have n4_ := Aside0.mk ((by rw [hg]; exact (below_size (by repeat (first | (with_reducible first | exact HB.out | apply below_alloc | apply pw_below_drewN | apply below_drew1) | exact HB.out))) : w.heap.size ≤ gb122)); clear HB; have HB := n1_; have BK122 := n2_; have GW122 := n3_; have GE122 := n4_; clear n1_ n2_ n3_ n4_; clear hb hbox hg; have hcz17_0 : w16.cell? ⟨gb122, 0, none⟩ = some (.int .i64 0) := (blk_cell BK122.out 0).trans rfl; have hcz17_1 : w16.cell? ⟨gb122, 1, none⟩ = some (.int .i64 0) := (blk_cell BK122.out 1).trans rfl; have hfz17_0 := blk_frozen BK122.out 0; have hfz17_1 := blk_frozen BK122.out 1))
        go_ret
        exact ⟨by first | rfl | (simp [errW_none, errW_some] <;> rfl) | (simp [*, errW_none, errW_some] <;> rfl), by repeat (first | (with_reducible first | exact HB.out | apply below_alloc | apply pw_below_drewN | apply below_drew1 | refine below_set ?_ GE122.out) | exact HB.out)⟩
    · rw [if_neg c3] at H
      have c3b0 : (t118 == 26) = false := beq_eq_false_iff_ne.mpr c3
      have c3b1 : (t118 != 26) = true := bne_iff_ne.mpr c3
      obtain rfl := Option.some.inj H
      have eY := Ny115.out
      subst eY
      have kc := fun (w : World) (C : Array Value) (n c : Nat) => Lib.run_convert_bytes_const (P := Try.prog) w 22 5 C n c Try.underlying22 Try.underlying5
      go_enter Try.func7, Try.ntmps7
      go_wp2_with (fail)
      refine (leader_Parse.calls k (some ⟨w.heap.size, 0, none⟩) 24 ([48, 48, 48, 50, 54, 110, 97, 109, 32, 97, 50, 50, 48, 48, 48, 50, 53, 32, 97, 32, 52, 53, 48, 48] : List Int) t118 t119 t120 t121 _ ?side1 ?side2 A1.out).mono ?_
      case side1 => exact const_reads _ ([48, 48, 48, 50, 54, 110, 97, 109, 32, 97, 50, 50, 48, 48, 48, 50, 53, 32, 97, 32, 52, 53, 48, 48] : List Int) _ (by simp)
      case side2 => exact Nat.le_refl _
      rintro e w21 ⟨rfl, hb⟩
      have n1_ := Aside0.mk (below_step (by repeat (first | (with_reducible first | exact HB.out | apply below_alloc | apply pw_below_drewN | apply below_drew1) | exact HB.out)) hb)
      clear HB
      have HB := n1_
      clear n1_
      (try clear hb)
      (try clear hb2)
      (try clear hk)
      (try clear hi)
      go_wp2_with (first | ((with_reducible refine gate_dst (N := 3) rfl ?_); refine box_event ?hg (N := 3) ?hd (cs := #[.int .i64 0, .int .i64 0]) (t := 26) ?hr ?_; (case hd => rfl); (case hg => rfl); (case hr => first | (go_simp; done) | (go_simp; rfl)); intro gb122 hg w22 hbox hb; have n1_ := Aside0.mk (below_step (by repeat (first | (with_reducible first | exact HB.out | apply below_alloc | apply pw_below_drewN | apply below_drew1) | exact HB.out)) hb); have n2_ := Aside0.mk (hbox); have n3_ := Aside0.mk ((by rw [hg]; exact (below_size (by repeat (first | (with_reducible first | exact HB.out | apply below_alloc | apply pw_below_drewN | apply below_drew1) | exact HB.out))) : w.heap.size ≤ gb122)); have n4_ := Aside0.mk ((by rw [hg]; exact (below_size (by repeat (first | (with_reducible first | exact HB.out | apply below_alloc | apply pw_below_drewN | apply below_drew1) | exact HB.out))) : w.heap.size ≤ gb122)); clear HB; have HB := n1_; have BK122 := n2_; have GW122 := n3_; have GE122 := n4_; clear n1_ n2_ n3_ n4_; clear hb hbox hg; have hcz23_0 : w22.cell? ⟨gb122, 0, none⟩ = some (.int .i64 0) := (blk_cell BK122.out 0).trans rfl; have hcz23_1 : w22.cell? ⟨gb122, 1, none⟩ = some (.int .i64 0) := (blk_cell BK122.out 1).trans rfl; have hfz23_0 := blk_frozen BK122.out 0; have hfz23_1 := blk_frozen BK122.out 1))
      go_ret
      exact ⟨by first | rfl | (simp [errW_none, errW_some] <;> rfl) | (simp [*, errW_none, errW_some] <;> rfl), by repeat (first | (with_reducible first | exact HB.out | apply below_alloc | apply pw_below_drewN | apply below_drew1 | refine below_set ?_ GE122.out) | exact HB.out)⟩
  · rw [if_neg c2] at H
    have c2b0 : (t120 == 0) = false := beq_eq_false_iff_ne.mpr c2
    have c2b1 : (t120 != 0) = true := bne_iff_ne.mpr c2
    obtain rfl := Option.some.inj H
    have eY := Ny115.out
    subst eY
    have kc := fun (w : World) (C : Array Value) (n c : Nat) => Lib.run_convert_bytes_const (P := Try.prog) w 22 5 C n c Try.underlying22 Try.underlying5
    go_enter Try.func7, Try.ntmps7
    go_wp2_with (fail)
    refine (leader_Parse.calls k (some ⟨w.heap.size, 0, none⟩) 24 ([48, 48, 48, 50, 54, 110, 97, 109, 32, 97, 50, 50, 48, 48, 48, 50, 53, 32, 97, 32, 52, 53, 48, 48] : List Int) t118 t119 t120 t121 _ ?side1 ?side2 A1.out).mono ?_
    case side1 => exact const_reads _ ([48, 48, 48, 50, 54, 110, 97, 109, 32, 97, 50, 50, 48, 48, 48, 50, 53, 32, 97, 32, 52, 53, 48, 48] : List Int) _ (by simp)
    case side2 => exact Nat.le_refl _
    rintro e w27 ⟨rfl, hb⟩
    have n1_ := Aside0.mk (below_step (by repeat (first | (with_reducible first | exact HB.out | apply below_alloc | apply pw_below_drewN | apply below_drew1) | exact HB.out)) hb)
    clear HB
    have HB := n1_
    clear n1_
    (try clear hb)
    (try clear hb2)
    (try clear hk)
    (try clear hi)
    go_wp2_with (first | ((with_reducible refine gate_dst (N := 3) rfl ?_); refine box_event ?hg (N := 3) ?hd (cs := #[.int .i64 0, .int .i64 0]) (t := 26) ?hr ?_; (case hd => rfl); (case hg => rfl); (case hr => first | (go_simp; done) | (go_simp; rfl)); intro gb122 hg w28 hbox hb; have n1_ := Aside0.mk (below_step (by repeat (first | (with_reducible first | exact HB.out | apply below_alloc | apply pw_below_drewN | apply below_drew1) | exact HB.out)) hb); have n2_ := Aside0.mk (hbox); have n3_ := Aside0.mk ((by rw [hg]; exact (below_size (by repeat (first | (with_reducible first | exact HB.out | apply below_alloc | apply pw_below_drewN | apply below_drew1) | exact HB.out))) : w.heap.size ≤ gb122)); have n4_ := Aside0.mk ((by rw [hg]; exact (below_size (by repeat (first | (with_reducible first | exact HB.out | apply below_alloc | apply pw_below_drewN | apply below_drew1) | exact HB.out))) : w.heap.size ≤ gb122)); clear HB; have HB := n1_; have BK122 := n2_; have GW122 := n3_; have GE122 := n4_; clear n1_ n2_ n3_ n4_; clear hb hbox hg; have hcz29_0 : w28.cell? ⟨gb122, 0, none⟩ = some (.int .i64 0) := (blk_cell BK122.out 0).trans rfl; have hcz29_1 : w28.cell? ⟨gb122, 1, none⟩ = some (.int .i64 0) := (blk_cell BK122.out 1).trans rfl; have hfz29_0 := blk_frozen BK122.out 0; have hfz29_1 := blk_frozen BK122.out 1))
    go_ret
    exact ⟨by first | rfl | (simp [errW_none, errW_some] <;> rfl) | (simp [*, errW_none, errW_some] <;> rfl), by repeat (first | (with_reducible first | exact HB.out | apply below_alloc | apply pw_below_drewN | apply below_drew1 | refine below_set ?_ GE122.out) | exact HB.out)⟩

/-! ### amanuensisref19_at: function 19 -/
mutual
def amanuensisref19_at.j0 : Nat → Int → Int → Bool → Bool → Option (Bool)
  | 0, _, _, _, _ => none
  | k + 1, x0, x1, x2, x16 => if x16 = true then (if x2 = true then (some true) else (if x1 ≥ 48 then (some (decide (x1 ≤ 57))) else (some false))) else (if x0 = 9 then (if x1 = 32 then (some true) else (some (x1 == 97))) else (if x0 = 10 then (amanuensisref19_at.j1 k x1 x0 (x0 == 10)) else (amanuensisref19_at.j1 k x1 x0 (x0 == 11))))
def amanuensisref19_at.j1 : Nat → Int → Int → Bool → Option (Bool)
  | 0, _, _, _ => none
  | k + 1, x1, x26, x35 => if x35 = true then (some (x1 == 50)) else (if x26 = 20 then (some (x1 == 52)) else (if x26 = 21 then (some (x1 == 53)) else (if x26 = 22 then (some (x1 == 48)) else (if x26 = 23 then (some (x1 == 48)) else (if x1 ≥ 32 then (some (decide (x1 ≤ 126))) else (some false))))))
end
def amanuensisref19_at.f (k : Nat) (a0 : Int) (a1 : Int) (a2 : Bool) : Option (Bool) := if a0 < 5 then (amanuensisref19_at.j0 k a0 a1 a2 true) else (if a0 ≥ 12 then (amanuensisref19_at.j0 k a0 a1 a2 (decide (a0 < 17))) else (amanuensisref19_at.j0 k a0 a1 a2 false))
theorem amanuensisref19_at.mono_l : ∀ k, (∀ y0 y1 y2 y3, LeO (amanuensisref19_at.j0 k y0 y1 y2 y3) (amanuensisref19_at.j0 (k + 1) y0 y1 y2 y3)) ∧ (∀ y0 y1 y2, LeO (amanuensisref19_at.j1 k y0 y1 y2) (amanuensisref19_at.j1 (k + 1) y0 y1 y2))
  | 0 => ⟨fun _ _ _ _ r h => by simp [amanuensisref19_at.j0] at h, fun _ _ _ r h => by simp [amanuensisref19_at.j1] at h⟩
  | k + 1 => by
    obtain ⟨ih0, ih1⟩ := amanuensisref19_at.mono_l k
    refine ⟨?_, ?_⟩
    · intro y0 y1 y2 y3
      unfold amanuensisref19_at.j0
      repeat' first
      | (with_reducible exact ih0 _ _ _ _)
      | (with_reducible exact ih1 _ _ _)
      | (with_reducible exact LeO.refl _)
      | (with_reducible exact LeO.none _)
      | (with_reducible refine LeO.ite ?_ ?_)
      | (with_reducible refine LeO.bind ?_ (fun _ => ?_))
      | exact ih0 _ _ _ _
      | exact ih1 _ _ _
      | exact LeO.none _
      | refine LeO.ite ?_ ?_
      | refine LeO.bind ?_ (fun _ => ?_)
    · intro y0 y1 y2
      unfold amanuensisref19_at.j1
      repeat' first
      | (with_reducible exact ih0 _ _ _ _)
      | (with_reducible exact ih1 _ _ _)
      | (with_reducible exact LeO.refl _)
      | (with_reducible exact LeO.none _)
      | (with_reducible refine LeO.ite ?_ ?_)
      | (with_reducible refine LeO.bind ?_ (fun _ => ?_))
      | exact ih0 _ _ _ _
      | exact ih1 _ _ _
      | exact LeO.none _
      | refine LeO.ite ?_ ?_
      | refine LeO.bind ?_ (fun _ => ?_)
theorem amanuensisref19_at.mono : ∀ a0 a1 a2 k, LeO (amanuensisref19_at.f k a0 a1 a2) (amanuensisref19_at.f (k + 1) a0 a1 a2) := by
  intro a0 a1 a2 k
  obtain ⟨ih0, ih1⟩ := amanuensisref19_at.mono_l k
  unfold amanuensisref19_at.f
  repeat' first
      | (with_reducible exact ih0 _ _ _ _)
      | (with_reducible exact ih1 _ _ _)
      | (with_reducible exact LeO.refl _)
      | (with_reducible exact LeO.none _)
      | (with_reducible refine LeO.ite ?_ ?_)
      | (with_reducible refine LeO.bind ?_ (fun _ => ?_))
      | exact ih0 _ _ _ _
      | exact ih1 _ _ _
      | exact LeO.none _
      | refine LeO.ite ?_ ?_
      | refine LeO.bind ?_ (fun _ => ?_)
set_option maxHeartbeats 8000000 in
set_option maxRecDepth 100000 in
theorem amanuensisref19_at.calls (k : Nat) (a0 : Int) (a1 : Int) (a2 : Bool) (r : Bool) (w : World) (h : amanuensisref19_at.f k a0 a1 a2 = some r) :
    Calls Try.prog 19 #[.int .i64 a0, .int .u8 a1, .bool a2] w fun e w' => e = .returned (.bool r) ∧ Drawn0 w w' := by
  have H : (if a0 < 5 then (amanuensisref19_at.j0 k a0 a1 a2 true) else (if a0 ≥ 12 then (amanuensisref19_at.j0 k a0 a1 a2 (decide (a0 < 17))) else (amanuensisref19_at.j0 k a0 a1 a2 false))) = some r := h
  clear h
  have HC4 := Aside0.mk H
  clear H
  go_enter Try.func19, Try.ntmps19
  go_upto_region 1 with (fail)
  go_cut [16] (fun v16 wc => ∃ (kq : Nat) (x16_3 : Bool), v16 = .bool x16_3 ∧ Aside0 (amanuensisref19_at.j0 kq a0 a1 a2 x16_3 = some r) ∧ Aside0 (kq ≤ k) ∧ Drawn0 w wc)
  case first =>
    have H := HC4.out
    clear HC4
    by_cases c5 : a0 < 5
    · rw [if_pos c5] at H
      have c5b0 : decide (a0 < 5) = true := decide_eq_true c5
      clear c5
      (first | rw [c5b0] | (simp only [i64_w, i32_w]; rw [c5b0]) | skip)
      have H' := Aside0.mk H
      clear H
      go_wp2
      go_meet
      case rel => exact ⟨_, (true), (by first | rfl | (simp; done) | (simp [*]; done)), H', ⟨by first | omega | exact Nat.le_refl _⟩, by repeat (first | exact Drawn0.refl _ | apply Drawn0.step)⟩
    · rw [if_neg c5] at H
      have c5b0 : decide (a0 < 5) = false := decide_eq_false c5
      clear c5
      (first | rw [c5b0] | (simp only [i64_w, i32_w]; rw [c5b0]) | skip)
      by_cases c6 : a0 ≥ 12
      · rw [if_pos c6] at H
        have c6b0 : decide (12 ≤ a0) = true := decide_eq_true c6
        clear c6
        have H' := Aside0.mk H
        clear H
        go_wp2
        go_meet
        case rel => exact ⟨_, (decide (a0 < 17)), (by first | rfl | (simp; done) | (simp [*]; done)), H', ⟨by first | omega | exact Nat.le_refl _⟩, by repeat (first | exact Drawn0.refl _ | apply Drawn0.step)⟩
      · rw [if_neg c6] at H
        have c6b0 : decide (12 ≤ a0) = false := decide_eq_false c6
        clear c6
        have H' := Aside0.mk H
        clear H
        go_wp2
        go_meet
        case rel => exact ⟨_, (false), (by first | rfl | (simp; done) | (simp [*]; done)), H', ⟨by first | omega | exact Nat.le_refl _⟩, by repeat (first | exact Drawn0.refl _ | apply Drawn0.step)⟩
  case rest =>
    clear HC4
    try clear c1
    try clear p2
    try clear c5
    try clear c5b0
    try clear c6
    try clear c6b0
    obtain ⟨kq, x16_3, rfl, HA, HJ3, ⟨mc3, rfl⟩⟩ := hcut
    cases kq with
    | zero => exact absurd HA.out (by simp [amanuensisref19_at.j0])
    | succ kj3 =>
      have H := HA.out
      clear HA
      simp only [amanuensisref19_at.j0] at H
      by_cases c7 : x16_3 = true
      · subst c7
        have H1 : (if a2 = true then (some true) else (if a1 ≥ 48 then (some (decide (a1 ≤ 57))) else (some false))) = some r := by rw [if_pos rfl] at H; exact H
        clear H
        have H := H1
        clear H1
        by_cases c8 : a2 = true
        · subst c8
          have H1 : (some true) = some r := by rw [if_pos rfl] at H; exact H
          clear H
          have H := H1
          clear H1
          obtain rfl := Option.some.inj H
          go_wp2
          go_ret
          exact ⟨by first | rfl | (simp; done) | (simp [*]; done), by repeat (first | exact Drawn0.refl _ | apply Drawn0.step)⟩
        · replace c8 := Bool.eq_false_iff.mpr c8
          subst c8
          have H1 : (if a1 ≥ 48 then (some (decide (a1 ≤ 57))) else (some false)) = some r := by rw [if_neg (show ¬ (false = true) by decide)] at H; exact H
          clear H
          have H := H1
          clear H1
          by_cases c9 : a1 ≥ 48
          · rw [if_pos c9] at H
            have c9b0 : decide (48 ≤ a1) = true := decide_eq_true c9
            clear c9
            obtain rfl := Option.some.inj H
            go_wp2
            go_ret
            exact ⟨by first | rfl | (simp; done) | (simp [*]; done), by repeat (first | exact Drawn0.refl _ | apply Drawn0.step)⟩
          · rw [if_neg c9] at H
            have c9b0 : decide (48 ≤ a1) = false := decide_eq_false c9
            clear c9
            obtain rfl := Option.some.inj H
            go_wp2
            go_ret
            exact ⟨by first | rfl | (simp; done) | (simp [*]; done), by repeat (first | exact Drawn0.refl _ | apply Drawn0.step)⟩
      · replace c7 := Bool.eq_false_iff.mpr c7
        subst c7
        have H1 : (if a0 = 9 then (if a1 = 32 then (some true) else (some (a1 == 97))) else (if a0 = 10 then (amanuensisref19_at.j1 kj3 a1 a0 (a0 == 10)) else (amanuensisref19_at.j1 kj3 a1 a0 (a0 == 11)))) = some r := by rw [if_neg (show ¬ (false = true) by decide)] at H; exact H
        clear H
        have H := H1
        clear H1
        by_cases c10 : a0 = 9
        · rw [if_pos c10] at H
          have c10b0 : (a0 == 9) = true := beq_iff_eq.mpr c10
          have c10b1 : (a0 != 9) = false := bne_eq_false_iff_eq.mpr c10
          clear c10
          by_cases c11 : a1 = 32
          · rw [if_pos c11] at H
            have c11b0 : (a1 == 32) = true := beq_iff_eq.mpr c11
            have c11b1 : (a1 != 32) = false := bne_eq_false_iff_eq.mpr c11
            clear c11
            obtain rfl := Option.some.inj H
            go_wp2
            go_ret
            exact ⟨by first | rfl | (simp; done) | (simp [*]; done), by repeat (first | exact Drawn0.refl _ | apply Drawn0.step)⟩
          · rw [if_neg c11] at H
            have c11b0 : (a1 == 32) = false := beq_eq_false_iff_ne.mpr c11
            have c11b1 : (a1 != 32) = true := bne_iff_ne.mpr c11
            obtain rfl := Option.some.inj H
            go_wp2
            go_ret
            exact ⟨by first | rfl | (simp; done) | (simp [*]; done), by repeat (first | exact Drawn0.refl _ | apply Drawn0.step)⟩
        · rw [if_neg c10] at H
          have c10b0 : (a0 == 9) = false := beq_eq_false_iff_ne.mpr c10
          have c10b1 : (a0 != 9) = true := bne_iff_ne.mpr c10
          have HC12 := Aside0.mk H
          clear H
          go_upto_if 35 with (fail)
          go_cut [35] (fun v35 wc => ∃ (kq : Nat) (x35_11 : Bool), v35 = .bool x35_11 ∧ Aside0 (amanuensisref19_at.j1 kq a1 a0 x35_11 = some r) ∧ Aside0 (kq ≤ kj3) ∧ Drawn0 w wc)
          case first =>
            have H := HC12.out
            clear HC12
            by_cases c13 : a0 = 10
            · rw [if_pos c13] at H
              have c13b0 : (a0 == 10) = true := beq_iff_eq.mpr c13
              have c13b1 : (a0 != 10) = false := bne_eq_false_iff_eq.mpr c13
              clear c13
              (first | rw [c13b0] | (simp only [i64_w, i32_w]; rw [c13b0]) | skip)
              have H' := Aside0.mk H
              clear H
              go_wp2
              go_meet
              case rel => exact ⟨_, ((a0 == 10)), (by first | rfl | (simp; done) | (simp [*]; done)), H', ⟨by have := HJ3.out; first | omega | exact Nat.le_refl _⟩, by repeat (first | exact Drawn0.refl _ | apply Drawn0.step)⟩
            · rw [if_neg c13] at H
              have c13b0 : (a0 == 10) = false := beq_eq_false_iff_ne.mpr c13
              have c13b1 : (a0 != 10) = true := bne_iff_ne.mpr c13
              (first | rw [c13b0] | (simp only [i64_w, i32_w]; rw [c13b0]) | skip)
              have H' := Aside0.mk H
              clear H
              go_wp2
              go_meet
              case rel => exact ⟨_, ((a0 == 11)), (by first | rfl | (simp; done) | (simp [*]; done)), H', ⟨by have := HJ3.out; first | omega | exact Nat.le_refl _⟩, by repeat (first | exact Drawn0.refl _ | apply Drawn0.step)⟩
          case rest =>
            clear HC12
            try clear c1
            try clear p2
            try clear c3
            try clear c5
            try clear c5b0
            try clear c6
            try clear c6b0
            try clear c7
            try clear c8
            try clear c9
            try clear c9b0
            try clear c10
            try clear c10b0
            try clear c10b1
            try clear c11
            try clear c11b0
            try clear c11b1
            try clear c13
            try clear c13b0
            try clear c13b1
            try clear p2
            obtain ⟨kq, x35_11, rfl, HA, HJ11, ⟨mc11, rfl⟩⟩ := hcut
            cases kq with
            | zero => exact absurd HA.out (by simp [amanuensisref19_at.j1])
            | succ kj11 =>
              have H := HA.out
              clear HA
              simp only [amanuensisref19_at.j1] at H
              by_cases c14 : x35_11 = true
              · subst c14
                have H1 : (some (a1 == 50)) = some r := by rw [if_pos rfl] at H; exact H
                clear H
                have H := H1
                clear H1
                obtain rfl := Option.some.inj H
                go_wp2
                go_ret
                exact ⟨by first | rfl | (simp; done) | (simp [*]; done), by repeat (first | exact Drawn0.refl _ | apply Drawn0.step)⟩
              · replace c14 := Bool.eq_false_iff.mpr c14
                subst c14
                have H1 : (if a0 = 20 then (some (a1 == 52)) else (if a0 = 21 then (some (a1 == 53)) else (if a0 = 22 then (some (a1 == 48)) else (if a0 = 23 then (some (a1 == 48)) else (if a1 ≥ 32 then (some (decide (a1 ≤ 126))) else (some false)))))) = some r := by rw [if_neg (show ¬ (false = true) by decide)] at H; exact H
                clear H
                have H := H1
                clear H1
                by_cases c15 : a0 = 20
                · rw [if_pos c15] at H
                  have c15b0 : (a0 == 20) = true := beq_iff_eq.mpr c15
                  have c15b1 : (a0 != 20) = false := bne_eq_false_iff_eq.mpr c15
                  clear c15
                  obtain rfl := Option.some.inj H
                  go_wp2
                  go_ret
                  exact ⟨by first | rfl | (simp; done) | (simp [*]; done), by repeat (first | exact Drawn0.refl _ | apply Drawn0.step)⟩
                · rw [if_neg c15] at H
                  have c15b0 : (a0 == 20) = false := beq_eq_false_iff_ne.mpr c15
                  have c15b1 : (a0 != 20) = true := bne_iff_ne.mpr c15
                  by_cases c16 : a0 = 21
                  · rw [if_pos c16] at H
                    have c16b0 : (a0 == 21) = true := beq_iff_eq.mpr c16
                    have c16b1 : (a0 != 21) = false := bne_eq_false_iff_eq.mpr c16
                    clear c16
                    obtain rfl := Option.some.inj H
                    go_wp2
                    go_ret
                    exact ⟨by first | rfl | (simp; done) | (simp [*]; done), by repeat (first | exact Drawn0.refl _ | apply Drawn0.step)⟩
                  · rw [if_neg c16] at H
                    have c16b0 : (a0 == 21) = false := beq_eq_false_iff_ne.mpr c16
                    have c16b1 : (a0 != 21) = true := bne_iff_ne.mpr c16
                    by_cases c17 : a0 = 22
                    · rw [if_pos c17] at H
                      have c17b0 : (a0 == 22) = true := beq_iff_eq.mpr c17
                      have c17b1 : (a0 != 22) = false := bne_eq_false_iff_eq.mpr c17
                      clear c17
                      obtain rfl := Option.some.inj H
                      go_wp2
                      go_ret
                      exact ⟨by first | rfl | (simp; done) | (simp [*]; done), by repeat (first | exact Drawn0.refl _ | apply Drawn0.step)⟩
                    · rw [if_neg c17] at H
                      have c17b0 : (a0 == 22) = false := beq_eq_false_iff_ne.mpr c17
                      have c17b1 : (a0 != 22) = true := bne_iff_ne.mpr c17
                      by_cases c18 : a0 = 23
                      · rw [if_pos c18] at H
                        have c18b0 : (a0 == 23) = true := beq_iff_eq.mpr c18
                        have c18b1 : (a0 != 23) = false := bne_eq_false_iff_eq.mpr c18
                        clear c18
                        obtain rfl := Option.some.inj H
                        go_wp2
                        go_ret
                        exact ⟨by first | rfl | (simp; done) | (simp [*]; done), by repeat (first | exact Drawn0.refl _ | apply Drawn0.step)⟩
                      · rw [if_neg c18] at H
                        have c18b0 : (a0 == 23) = false := beq_eq_false_iff_ne.mpr c18
                        have c18b1 : (a0 != 23) = true := bne_iff_ne.mpr c18
                        by_cases c19 : a1 ≥ 32
                        · rw [if_pos c19] at H
                          have c19b0 : decide (32 ≤ a1) = true := decide_eq_true c19
                          clear c19
                          obtain rfl := Option.some.inj H
                          go_wp2
                          go_ret
                          exact ⟨by first | rfl | (simp; done) | (simp [*]; done), by repeat (first | exact Drawn0.refl _ | apply Drawn0.step)⟩
                        · rw [if_neg c19] at H
                          have c19b0 : decide (32 ≤ a1) = false := decide_eq_false c19
                          clear c19
                          obtain rfl := Option.some.inj H
                          go_wp2
                          go_ret
                          exact ⟨by first | rfl | (simp; done) | (simp [*]; done), by repeat (first | exact Drawn0.refl _ | apply Drawn0.step)⟩

/-! ### amanuensisref19_num: function 20 -/
def amanuensisref19_num.l0 : Nat → List Int → Int → Int → Option (Int)
  | 0, _, _, _ => none
  | k + 1, x0, x3, x4 => if x4 < (x0.length : Int) then (if 0 ≤ x4 then (if (rd x0 x4) < 48 then (some (-1)) else (if (rd x0 x4) > 57 then (some (-1)) else (amanuensisref19_num.l0 k x0 (wrap64 ((wrap64 (10 * x3)) + (((rd x0 x4) - 48) % 256))) (wrap64 (x4 + 1))))) else (none)) else (some x3)
def amanuensisref19_num.f (k : Nat) (l0 : List Int) : Option (Int) := amanuensisref19_num.l0 k l0 0 0
theorem amanuensisref19_num.mono_l : ∀ k, (∀ y0 y1 y2, LeO (amanuensisref19_num.l0 k y0 y1 y2) (amanuensisref19_num.l0 (k + 1) y0 y1 y2))
  | 0 => fun _ _ _ r h => by simp [amanuensisref19_num.l0] at h
  | k + 1 => by
    have ih0 := amanuensisref19_num.mono_l k
    · intro y0 y1 y2
      unfold amanuensisref19_num.l0
      repeat' first
      | (with_reducible exact ih0 _ _ _)
      | (with_reducible exact LeO.refl _)
      | (with_reducible exact LeO.none _)
      | (with_reducible refine LeO.ite ?_ ?_)
      | (with_reducible refine LeO.bind ?_ (fun _ => ?_))
      | exact ih0 _ _ _
      | exact LeO.none _
      | refine LeO.ite ?_ ?_
      | refine LeO.bind ?_ (fun _ => ?_)
theorem amanuensisref19_num.mono : ∀ a0 k, LeO (amanuensisref19_num.f k a0) (amanuensisref19_num.f (k + 1) a0) := by
  intro a0 k
  have ih0 := amanuensisref19_num.mono_l k
  unfold amanuensisref19_num.f
  repeat' first
      | (with_reducible exact ih0 _ _ _)
      | (with_reducible exact LeO.refl _)
      | (with_reducible exact LeO.none _)
      | (with_reducible refine LeO.ite ?_ ?_)
      | (with_reducible refine LeO.bind ?_ (fun _ => ?_))
      | exact ih0 _ _ _
      | exact LeO.none _
      | refine LeO.ite ?_ ?_
      | refine LeO.bind ?_ (fun _ => ?_)
set_option maxHeartbeats 8000000 in
set_option maxRecDepth 100000 in
theorem amanuensisref19_num.calls (k : Nat) (A0 : Option Addr) (c0 : Nat) (l0 : List Int) (r : Int) (w : World) (hr0 : Kd.C (Kd.int .u8) w A0 l0.length l0) (hc0 : l0.length ≤ c0) (h : amanuensisref19_num.f k l0 = some r) :
    Calls Try.prog 20 #[.slice A0 l0.length c0] w fun e w' => e = .returned (.int .i64 r) ∧ Drawn0 w w' := by
  have HR0 := Aside0.mk hr0
  have HC0 := Aside0.mk hc0
  clear hr0 hc0
  have H : (amanuensisref19_num.l0 k l0 0 0) = some r := h
  clear h
  have H' := Aside0.mk H
  clear H
  go_enter Try.func20, Try.ntmps20
  go_wp2
  go_loopg [3, 4] k (fun kq v3 v4 w' => ∃ (x3_1 : Int) (x4_1 : Int), v3 = .int .i64 x3_1 ∧ v4 = .int .i64 x4_1 ∧ Aside0 (amanuensisref19_num.l0 kq l0 x3_1 x4_1 = some r) ∧ Aside0 (kq ≤ k) ∧ Drawn0 w w')
  case atStart => exact ⟨(0), (0), (by first | rfl | (simp; done) | (simp [*]; done)), (by first | rfl | (simp; done) | (simp [*]; done)), H', ⟨Nat.le_refl _⟩, by repeat (first | exact Drawn0.refl _ | apply Drawn0.step)⟩
  case round =>
    clear H'
    obtain ⟨x3_1, x4_1, rfl, rfl, HA, HK1, ⟨m1, rfl⟩⟩ := hrel
    cases gk with
    | zero => exact absurd HA.out (by simp [amanuensisref19_num.l0])
    | succ k1 =>
      have H := HA.out
      clear HA
      simp only [amanuensisref19_num.l0] at H
      by_cases c2 : x4_1 < (l0.length : Int)
      · rw [if_pos c2] at H
        have c2b0 : decide (x4_1 < (l0.length : Int)) = true := decide_eq_true c2
        clear c2
        by_cases c3 : 0 ≤ x4_1
        · rw [if_pos c3] at H
          have c3b0 : decide (0 ≤ x4_1) = true := decide_eq_true c3
          clear c3
          by_cases c4 : (rd l0 x4_1) < 48
          · rw [if_pos c4] at H
            have c4b0 : decide ((rd l0 x4_1) < 48) = true := decide_eq_true c4
            clear c4
            obtain rfl := Option.some.inj H
            have p124 : 0 ≤ (x4_1 : Int) := of_decide_eq_true (by first | (with_reducible assumption) | assumption)
            have q124 : x4_1 < (l0.length : Int) := of_decide_eq_true (by first | (with_reducible assumption) | assumption)
            obtain ⟨ad124, e124, hx124_0⟩ := Kd.at_int HR0.out x4_1 p124 q124
            cases e124
            replace p124 := eq_true p124
            replace q124 := eq_true q124
            go_wp2
            go_ret
            exact ⟨by first | rfl | (simp; done) | (simp [*]; done), by repeat (first | exact Drawn0.refl _ | apply Drawn0.step)⟩
          · rw [if_neg c4] at H
            have c4b0 : decide ((rd l0 x4_1) < 48) = false := decide_eq_false c4
            clear c4
            by_cases c5 : (rd l0 x4_1) > 57
            · rw [if_pos c5] at H
              have c5b0 : decide (57 < (rd l0 x4_1)) = true := decide_eq_true c5
              clear c5
              obtain rfl := Option.some.inj H
              have p124 : 0 ≤ (x4_1 : Int) := of_decide_eq_true (by first | (with_reducible assumption) | assumption)
              have q124 : x4_1 < (l0.length : Int) := of_decide_eq_true (by first | (with_reducible assumption) | assumption)
              obtain ⟨ad124, e124, hx124_0⟩ := Kd.at_int HR0.out x4_1 p124 q124
              cases e124
              replace p124 := eq_true p124
              replace q124 := eq_true q124
              have p125 : 0 ≤ (x4_1 : Int) := of_decide_eq_true (by first | (with_reducible assumption) | assumption)
              have q125 : x4_1 < (l0.length : Int) := of_decide_eq_true (by first | (with_reducible assumption) | assumption)
              obtain ⟨ad125, e125, hx125_0⟩ := Kd.at_int HR0.out x4_1 p125 q125
              obtain rfl : ad124 = ad125 := (by injection e125)
              replace p125 := eq_true p125
              replace q125 := eq_true q125
              go_wp2
              go_ret
              exact ⟨by first | rfl | (simp; done) | (simp [*]; done), by repeat (first | exact Drawn0.refl _ | apply Drawn0.step)⟩
            · rw [if_neg c5] at H
              have c5b0 : decide (57 < (rd l0 x4_1)) = false := decide_eq_false c5
              clear c5
              have H' := Aside0.mk H
              clear H
              have p124 : 0 ≤ (x4_1 : Int) := of_decide_eq_true (by first | (with_reducible assumption) | assumption)
              have q124 : x4_1 < (l0.length : Int) := of_decide_eq_true (by first | (with_reducible assumption) | assumption)
              obtain ⟨ad124, e124, hx124_0⟩ := Kd.at_int HR0.out x4_1 p124 q124
              cases e124
              replace p124 := eq_true p124
              replace q124 := eq_true q124
              have p125 : 0 ≤ (x4_1 : Int) := of_decide_eq_true (by first | (with_reducible assumption) | assumption)
              have q125 : x4_1 < (l0.length : Int) := of_decide_eq_true (by first | (with_reducible assumption) | assumption)
              obtain ⟨ad125, e125, hx125_0⟩ := Kd.at_int HR0.out x4_1 p125 q125
              obtain rfl : ad124 = ad125 := (by injection e125)
              replace p125 := eq_true p125
              replace q125 := eq_true q125
              have p126 : 0 ≤ (x4_1 : Int) := of_decide_eq_true (by first | (with_reducible assumption) | assumption)
              have q126 : x4_1 < (l0.length : Int) := of_decide_eq_true (by first | (with_reducible assumption) | assumption)
              obtain ⟨ad126, e126, hx126_0⟩ := Kd.at_int HR0.out x4_1 p126 q126
              obtain rfl : ad124 = ad126 := (by injection e126)
              replace p126 := eq_true p126
              replace q126 := eq_true q126
              go_wp2
              go_roundg k1
              case measure => have := HK1.out; omega
              case rel => exact ⟨(wrap64 ((wrap64 (10 * x3_1)) + (((rd l0 x4_1) - 48) % 256))), (wrap64 (x4_1 + 1)), (by first | rfl | (simp; done) | (simp [*]; done)), (by first | rfl | (simp; done) | (simp [*]; done)), H', ⟨by have := HK1.out; omega⟩, by repeat (first | exact Drawn0.refl _ | apply Drawn0.step)⟩
        · rw [if_neg c3] at H
          exact absurd H (by simp)
      · rw [if_neg c2] at H
        have c2b0 : decide (x4_1 < (l0.length : Int)) = false := decide_eq_false c2
        clear c2
        obtain rfl := Option.some.inj H
        go_wp2
        go_ret
        exact ⟨by first | rfl | (simp; done) | (simp [*]; done), by repeat (first | exact Drawn0.refl _ | apply Drawn0.step)⟩

end Go.Proofs.Ytopdomaogmmklaa.PLeaderParses
