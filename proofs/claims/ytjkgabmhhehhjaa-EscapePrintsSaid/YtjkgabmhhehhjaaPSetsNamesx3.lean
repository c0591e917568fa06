/- The reference's least escape and what it calls: begun as a text of print.sh, over a translation in which a function has a stand-in; what the stand-in changes is proved by hand. -/
import Derived.Test.YtjkgabmhhehhjaaPSetsApartx0
import Derived.Test.YtjkgabmhhehhjaaPSetsApartx1
import Derived.Test.YtjkgabmhhehhjaaPSetsApartx2
import Derived.Test.YtjkgabmhhehhjaaPSetsApartx3
import Derived.WalkSpells
namespace Go.Proofs.Ytjkgabmhhehhjaa.PSetsNames
open Go.Proofs.Ytjkgabmhhehhjaa.PSetsApart Go.RowKit Go.Proofs.YtjkgabmhhehhjaaW.PrintWords Go.Proofs.YtjkgabmhhehhjaaW.PrintLast Go.Proofs.YtjkgabmhhehhjaaW.PrintMore
attribute [local go_sem] max2_int min2_int max_two min_two max_three min_three max_four min_four   -- for this text's walks alone
set_option linter.unusedVariables false
set_option linter.unusedSimpArgs false

/-! ### amanuensisref08_Less: function 16 -/
def amanuensisref08_Less.l0 : Nat → List Int → List Int → Int → Option (Bool)
  | 0, _, _, _ => none
  | k + 1, x0, x1, x5 => if x5 < (x0.length : Int) then (if 0 ≤ x5 then (if x5 < (x1.length : Int) then (if (rd x0 x5) = (rd x1 x5) then (amanuensisref08_Less.l0 k x0 x1 (wrap64 (x5 + 1))) else (some (decide ((rd x0 x5) < (rd x1 x5))))) else (none)) else (none)) else (some false)
def amanuensisref08_Less.f (k : Nat) (l0 : List Int) (l1 : List Int) : Option (Bool) := if (l0.length : Int) = (l1.length : Int) then (amanuensisref08_Less.l0 k l0 l1 0) else (some (decide ((l0.length : Int) < (l1.length : Int))))
theorem amanuensisref08_Less.mono_l : ∀ k, (∀ y0 y1 y2, LeO (amanuensisref08_Less.l0 k y0 y1 y2) (amanuensisref08_Less.l0 (k + 1) y0 y1 y2))
  | 0 => fun _ _ _ r h => by simp [amanuensisref08_Less.l0] at h
  | k + 1 => by
    have ih0 := amanuensisref08_Less.mono_l k
    · intro y0 y1 y2
      unfold amanuensisref08_Less.l0
      repeat' first
      | (with_reducible exact ih0 _ _ _)
      | (with_reducible exact LeO.refl _)
      | (with_reducible exact LeO.none _)
      | (with_reducible refine LeO.ite ?_ ?_)
      | (with_reducible refine LeO.bind ?_ (fun _ => ?_))
      | exact ih0 _ _ _
      | exact LeO.none _
      | refine LeO.ite ?_ ?_
      | refine LeO.bind ?_ (fun _ => ?_)
theorem amanuensisref08_Less.mono : ∀ a0 a1 k, LeO (amanuensisref08_Less.f k a0 a1) (amanuensisref08_Less.f (k + 1) a0 a1) := by
  intro a0 a1 k
  have ih0 := amanuensisref08_Less.mono_l k
  unfold amanuensisref08_Less.f
  repeat' first
      | (with_reducible exact ih0 _ _ _)
      | (with_reducible exact LeO.refl _)
      | (with_reducible exact LeO.none _)
      | (with_reducible refine LeO.ite ?_ ?_)
      | (with_reducible refine LeO.bind ?_ (fun _ => ?_))
      | exact ih0 _ _ _
      | exact LeO.none _
      | refine LeO.ite ?_ ?_
      | refine LeO.bind ?_ (fun _ => ?_)
set_option maxHeartbeats 8000000 in
set_option maxRecDepth 100000 in
theorem amanuensisref08_Less.calls (k : Nat) (A0 : Option Addr) (c0 : Nat) (l0 : List Int) (A1 : Option Addr) (c1 : Nat) (l1 : List Int) (r : Bool) (w : World) (hr0 : Kd.C (Kd.int .u8) w A0 l0.length l0) (hc0 : l0.length ≤ c0) (hr1 : Kd.C (Kd.int .u8) w A1 l1.length l1) (hc1 : l1.length ≤ c1) (h : amanuensisref08_Less.f k l0 l1 = some r) :
    Calls Try.prog 16 #[.slice A0 l0.length c0, .slice A1 l1.length c1] w fun e w' => e = .returned (.bool r) ∧ Drawn0 w w' := by
  have HR0 := Aside0.mk hr0
  have HC0 := Aside0.mk hc0
  clear hr0 hc0
  have HR1 := Aside0.mk hr1
  have HC1 := Aside0.mk hc1
  clear hr1 hc1
  have H : (if (l0.length : Int) = (l1.length : Int) then (amanuensisref08_Less.l0 k l0 l1 0) else (some (decide ((l0.length : Int) < (l1.length : Int))))) = some r := h
  clear h
  by_cases c3 : (l0.length : Int) = (l1.length : Int)
  · rw [if_pos c3] at H
    have c3b0 : ((l0.length : Int) == (l1.length : Int)) = true := beq_iff_eq.mpr c3
    have c3b1 : ((l0.length : Int) != (l1.length : Int)) = false := bne_eq_false_iff_eq.mpr c3
    have c3b2 : (l0.length == l1.length) = true := by first | simpa using c3 | (simp at c3 ⊢; omega)
    clear c3
    have H' := Aside0.mk H
    clear H
    go_enter Try.func16, Try.ntmps16
    go_wp2
    repeat (go_quiet (fail); try go_wp2)
    go_loopg [5] k (fun kq v5 w' => ∃ (x5_1 : Int), v5 = .int .i64 x5_1 ∧ Aside0 (amanuensisref08_Less.l0 kq l0 l1 x5_1 = some r) ∧ Aside0 (kq ≤ k) ∧ Drawn0 w w')
    case atStart => exact ⟨(0), (by first | rfl | (simp; done) | (simp [*]; done)), H', ⟨Nat.le_refl _⟩, by repeat (first | exact Drawn0.refl _ | apply Drawn0.step)⟩
    case round =>
      clear H'
      try clear c1
      try clear p2
      try clear c3
      try clear c3b0
      try clear c3b1
      try clear c3b2
      obtain ⟨x5_1, rfl, HA, HK1, ⟨m1, rfl⟩⟩ := hrel
      cases gk with
      | zero => exact absurd HA.out (by simp [amanuensisref08_Less.l0])
      | succ k1 =>
        have H := HA.out
        clear HA
        simp only [amanuensisref08_Less.l0] at H
        by_cases c4 : x5_1 < (l0.length : Int)
        · rw [if_pos c4] at H
          have c4b0 : decide (x5_1 < (l0.length : Int)) = true := decide_eq_true c4
          clear c4
          by_cases c5 : 0 ≤ x5_1
          · rw [if_pos c5] at H
            have c5b0 : decide (0 ≤ x5_1) = true := decide_eq_true c5
            clear c5
            by_cases c6 : x5_1 < (l1.length : Int)
            · rw [if_pos c6] at H
              have c6b0 : decide (x5_1 < (l1.length : Int)) = true := decide_eq_true c6
              clear c6
              by_cases c7 : (rd l0 x5_1) = (rd l1 x5_1)
              · rw [if_pos c7] at H
                have c7b0 : ((rd l0 x5_1) == (rd l1 x5_1)) = true := beq_iff_eq.mpr c7
                have c7b1 : ((rd l0 x5_1) != (rd l1 x5_1)) = false := bne_eq_false_iff_eq.mpr c7
                clear c7
                have H' := Aside0.mk H
                clear H
                have p153 : 0 ≤ (x5_1 : Int) := of_decide_eq_true (by first | (with_reducible assumption) | assumption)
                have q153 : x5_1 < (l0.length : Int) := of_decide_eq_true (by first | (with_reducible assumption) | assumption)
                obtain ⟨ad153, e153, hx153_0⟩ := Kd.at_int HR0.out x5_1 p153 q153
                cases e153
                replace p153 := eq_true p153
                replace q153 := eq_true q153
                have p154 : 0 ≤ (x5_1 : Int) := of_decide_eq_true (by first | (with_reducible assumption) | assumption)
                have q154 : x5_1 < (l1.length : Int) := of_decide_eq_true (by first | (with_reducible assumption) | assumption)
                obtain ⟨ad154, e154, hx154_0⟩ := Kd.at_int HR1.out x5_1 p154 q154
                cases e154
                replace p154 := eq_true p154
                replace q154 := eq_true q154
                go_wp2
                repeat (go_quiet (fail); try go_wp2)
                go_roundg k1
                case measure => have := HK1.out; omega
                case rel => exact ⟨(wrap64 (x5_1 + 1)), (by first | rfl | (simp; done) | (simp [*]; done)), H', ⟨by have := HK1.out; omega⟩, by repeat (first | exact Drawn0.refl _ | apply Drawn0.step)⟩
              · rw [if_neg c7] at H
                have c7b0 : ((rd l0 x5_1) == (rd l1 x5_1)) = false := beq_eq_false_iff_ne.mpr c7
                have c7b1 : ((rd l0 x5_1) != (rd l1 x5_1)) = true := bne_iff_ne.mpr c7
                obtain rfl := Option.some.inj H
                have p153 : 0 ≤ (x5_1 : Int) := of_decide_eq_true (by first | (with_reducible assumption) | assumption)
                have q153 : x5_1 < (l0.length : Int) := of_decide_eq_true (by first | (with_reducible assumption) | assumption)
                obtain ⟨ad153, e153, hx153_0⟩ := Kd.at_int HR0.out x5_1 p153 q153
                cases e153
                replace p153 := eq_true p153
                replace q153 := eq_true q153
                have p154 : 0 ≤ (x5_1 : Int) := of_decide_eq_true (by first | (with_reducible assumption) | assumption)
                have q154 : x5_1 < (l1.length : Int) := of_decide_eq_true (by first | (with_reducible assumption) | assumption)
                obtain ⟨ad154, e154, hx154_0⟩ := Kd.at_int HR1.out x5_1 p154 q154
                cases e154
                replace p154 := eq_true p154
                replace q154 := eq_true q154
                have p155 : 0 ≤ (x5_1 : Int) := of_decide_eq_true (by first | (with_reducible assumption) | assumption)
                have q155 : x5_1 < (l0.length : Int) := of_decide_eq_true (by first | (with_reducible assumption) | assumption)
                obtain ⟨ad155, e155, hx155_0⟩ := Kd.at_int HR0.out x5_1 p155 q155
                obtain rfl : ad153 = ad155 := (by injection e155)
                replace p155 := eq_true p155
                replace q155 := eq_true q155
                have p156 : 0 ≤ (x5_1 : Int) := of_decide_eq_true (by first | (with_reducible assumption) | assumption)
                have q156 : x5_1 < (l1.length : Int) := of_decide_eq_true (by first | (with_reducible assumption) | assumption)
                obtain ⟨ad156, e156, hx156_0⟩ := Kd.at_int HR1.out x5_1 p156 q156
                obtain rfl : ad154 = ad156 := (by injection e156)
                replace p156 := eq_true p156
                replace q156 := eq_true q156
                go_wp2
                repeat (go_quiet (fail); try go_wp2)
                go_ret
                exact ⟨by first | rfl | (simp; done) | (simp [*]; done), by repeat (first | exact Drawn0.refl _ | apply Drawn0.step)⟩
            · rw [if_neg c6] at H
              exact absurd H (by simp)
          · rw [if_neg c5] at H
            exact absurd H (by simp)
        · rw [if_neg c4] at H
          have c4b0 : decide (x5_1 < (l0.length : Int)) = false := decide_eq_false c4
          clear c4
          obtain rfl := Option.some.inj H
          go_wp2
          repeat (go_quiet (fail); try go_wp2)
          go_ret
          exact ⟨by first | rfl | (simp; done) | (simp [*]; done), by repeat (first | exact Drawn0.refl _ | apply Drawn0.step)⟩
  · rw [if_neg c3] at H
    have c3b0 : ((l0.length : Int) == (l1.length : Int)) = false := beq_eq_false_iff_ne.mpr c3
    have c3b1 : ((l0.length : Int) != (l1.length : Int)) = true := bne_iff_ne.mpr c3
    have c3b2 : (l0.length == l1.length) = false := by first | simpa using c3 | (simp at c3 ⊢; omega)
    obtain rfl := Option.some.inj H
    go_enter Try.func16, Try.ntmps16
    go_wp2
    repeat (go_quiet (fail); try go_wp2)
    go_ret
    exact ⟨by first | rfl | (simp; done) | (simp [*]; done), by repeat (first | exact Drawn0.refl _ | apply Drawn0.step)⟩

/-! ### a marked row ('[]byte(s)'): it is read as the string's bytes; its laws bear the names of the own row's -/
/-- A row that a conversion of a string has made. -/
def MR (e : Nat) (w : World) (base : Nat) (ok : Nat → Prop) (v : Value) (xs : List Int) : Prop :=
  ∃ (g c : Nat) (C : Array Value) (fr : Nat × Nat), v = .slice (some ⟨g, 0, none⟩) xs.length c ∧ xs.length ≤ c ∧ xs.length ≤ 9223372036854775807 ∧ w.heap[g]? = some (.cells C e fr) ∧ (∀ j, j < xs.length → C[j]? = some (.int .u8 (xs.getD j 0))) ∧ base ≤ g ∧ ok g
namespace MR
section
variable {e base : Nat} {ok ok' : Nat → Prop} {w w1 : World} {v u : Value} {xs : List Int}
theorem R_step (h : MR e w base ok v xs) (hm : ∀ k, ok k → k < w.heap.size → w1.heap[k]? = w.heap[k]?) : MR e w1 base ok v xs := by
  obtain ⟨g, c, C, fr, hv, hc, hl, hg, hx, hb, ho⟩ := h
  exact ⟨g, c, C, fr, hv, hc, hl, (hm g ho (blk_lt hg)).trans hg, hx, hb, ho⟩
theorem R_mono (h : MR e w base ok v xs) (hok : ∀ k, ok k → ok' k) : MR e w base ok' v xs := by
  obtain ⟨g, c, C, fr, hv, hc, hl, hg, hx, hb, ho⟩ := h
  exact ⟨g, c, C, fr, hv, hc, hl, hg, hx, hb, hok g ho⟩
theorem R_bound (h : MR e w base ok v xs) : MR e w base (fun k => ok k ∧ base ≤ k ∧ k < w.heap.size) v xs := by
  obtain ⟨g, c, C, fr, hv, hc, hl, hg, hx, hb, ho⟩ := h
  exact ⟨g, c, C, fr, hv, hc, hl, hg, hx, hb, ho, hb, blk_lt hg⟩
theorem R_below (h : MR e w base ok v xs) (hb : Below w.heap.size w w1) : MR e w1 base ok v xs := R_step h (fun k _ hk => hb.block k hk)
theorem R_far (h : MR e w base ok v xs) {p : Addr} (hok : ∀ k, ok k → k ≠ p.block) (x : Value) : MR e (w.setCell p x) base ok v xs := R_step h (fun k ho _ => Below.heap_setCell w p x k (hok k ho))
theorem R_types (h : MR e w base ok v xs) {g t : Nat} {cells : Array Value} (hb : w.heap[g]? = some (.cells cells t (0, 0))) (ht : ∀ q, q ∈ [e] → q ≠ t) : MR e w base (fun k => ok k ∧ k ≠ g) v xs := by
  obtain ⟨g', c, C, fr, hv, hc, hl, hg, hx, hbb, ho⟩ := h
  refine ⟨g', c, C, fr, hv, hc, hl, hg, hx, hbb, ho, ?_⟩
  rintro rfl
  rw [hg] at hb
  injection hb with hb
  injection hb with _ h2 _
  exact ht e (by simp) h2
theorem R_slice (h : MR e w base ok v xs) : ∃ A c, v = .slice A xs.length c := by
  obtain ⟨g, c, C, fr, hv, _⟩ := h
  exact ⟨_, _, hv⟩
theorem R_reads' {A : Option Addr} {n c : Nat} (h : MR e w base ok (.slice A n c) xs) : n = xs.length ∧ n ≤ c ∧ Kd.C (Kd.int .u8) w A xs.length xs := by
  obtain ⟨g, c', C, fr, hv, hc, hl, hg, hx, hb, ho⟩ := h
  injection hv with h1 h2 h3
  subst h1 h2 h3
  refine ⟨rfl, hc, Kd.C_of_reads (d := 0) (h1 := fun _ => rfl) ⟨rfl, hl, fun _ => ⟨_, rfl, fun j hj => ?_⟩⟩⟩
  rw [add_plain]
  unfold World.cell?
  simp only
  rw [hg]
  simp only [Option.isSome_none, Bool.false_eq_true, if_false]
  exact hx j hj
theorem R_lower {base' : Nat} (h : MR e w base ok v xs) (hb : base' ≤ base) : MR e w base' ok v xs := by
  obtain ⟨g, c, C, fr, hv, hc, hl, hg, hx, hbb, ho⟩ := h
  exact ⟨g, c, C, fr, hv, hc, hl, hg, hx, Nat.le_trans hb hbb, ho⟩
theorem R_own (h : MR e w base ok v xs) : ∀ k, v.ownBlock = some k → base ≤ k ∧ k < w.heap.size := by
  obtain ⟨g, c, C, fr, hv, hc, hl, hg, hx, hbb, ho⟩ := h
  intro k hk
  subst hv
  have : g = k := by simpa [Value.ownBlock] using hk
  subst this
  exact ⟨hbb, blk_lt hg⟩
theorem R_base (h : MR e w base ok v xs) : ∀ k, v.ownBlock = some k → base ≤ k := fun k hk => (R_own h k hk).1
theorem R_lt (h : MR e w base ok v xs) : ∀ k, v.ownBlock = some k → k < w.heap.size := fun k hk => (R_own h k hk).2
theorem R_alloc (h : MR e w base ok v xs) (o : Obj) : MR e (w.alloc o) base ok v xs := R_below h (below_alloc (Below.refl _ _) o)
theorem R_drew (h : MR e w base ok v xs) : MR e w.drew base ok v xs := R_below h (below_drew (Below.refl _ _))
theorem R_drewN (h : MR e w base ok v xs) (m : Nat) : MR e (w.drewN m) base ok v xs := R_below h (pw_below_drewN (Below.refl _ _) m)
theorem R_elder' (hu : MR e w base ok u xs) (hbase : ∀ k, v.ownBlock = some k → w.heap.size ≤ k) (hb : Below w.heap.size w w1) : MR e w1 base (fun k => ok k ∧ some k ≠ v.ownBlock) u xs :=
  R_below (R_mono (R_bound hu) (fun k hk => ⟨hk.1, fun he => by have := hbase k he.symm; have := hk.2.2; omega⟩)) hb
theorem R_elderB (h : MR e w base ok v xs) (a : Nat) (ha : w.heap.size ≤ a) : MR e w base (fun k => ok k ∧ k ≠ a) v xs := R_mono (R_bound h) (fun k hk => ⟨hk.1, by have := hk.2.2; omega⟩)
theorem R_new' (h : MR e w1 w.heap.size ok v xs) (hlt : ∀ k, u.ownBlock = some k → k < w.heap.size) : MR e w1 w.heap.size (fun k => ok k ∧ some k ≠ u.ownBlock) v xs :=
  R_mono (R_bound h) (fun k hk => ⟨hk.1, fun he => by have := hlt k he.symm; have := hk.2.1; omega⟩)
theorem R_newB {g : Nat} {o : Obj} (h : MR e w1 w.heap.size ok v xs) (hb : w.heap[g]? = some o) : MR e w1 w.heap.size (fun k => ok k ∧ k ≠ g) v xs := R_mono (R_bound h) (fun k hk => ⟨hk.1, by have := blk_lt hb; have := hk.2.1; omega⟩)
/-- The row behind '[]byte(s)'. -/
theorem made (W : World) (e : Nat) (s : ByteArray) (hs : s.size ≤ 9223372036854775807) {ok : Nat → Prop} (hok : ok W.heap.size) : MR e (Lib.bytesWorld W e s) W.heap.size ok (.slice (some ⟨W.heap.size, 0, none⟩) s.size (grownCap W s.size 0 e)) (bytesOf s) := by
  have hl : s.size = (bytesOf s).length := (bytesOf_length s).symm
  refine ⟨W.heap.size, grownCap W s.size 0 e, _, _, by rw [← hl], by rw [← hl]; exact grownCap_ge W s.size 0 e, by rw [← hl]; exact hs, Lib.bytesWorld_at_new W e s, fun j hj => ?_, Nat.le_refl _, hok⟩
  have h2 := Lib.bytesWorld_cell W e s j (by rw [hl]; exact hj)
  unfold World.cell? at h2
  simp only [Lib.bytesWorld_at_new W e s, Option.isSome_none, Bool.false_eq_true, if_false] at h2
  rw [h2]
  simp [bytesOf, List.getD_eq_getElem?_getD]
  cases s.data[j]? <;> simp
end
section
variable {P : Program} {ops : Array Oper} {rest : List Oper} {o : Oper} {a : Act} {Q : Exit → Act → World → Prop}
theorem lit {W : World} {ok : Nat → Prop} (s : ByteArray) (xs : List Int) (hx : xs = bytesOf s) (hs : s.size ≤ 9223372036854775807) (e : TypeId) (hgd : o.guard = none) {N : Tmp} (_hd : o.dst = some N)
    (hrun : (execOp a.eval o).run P W = .ok (.value (.slice (some ⟨W.heap.size, 0, none⟩) s.size (grownCap W s.size 0 e))) (Lib.bytesWorld W e s)) (hok : ok W.heap.size)
    (h : ∀ v1 w1, MR e w1 W.heap.size ok v1 xs → Below W.heap.size W w1 → True → True → wpList P ops Q rest (a.put o.dst v1) w1) : wpList P ops Q (o :: rest) a W := by
  subst hx
  exact Kd.event_run hgd hrun (h _ _ (made W e s hs hok) (bytes_below (Below.refl _ _) (Nat.le_refl _) e s) trivial trivial)
theorem lit_step {W : World} {ok : Nat → Prop} {Kc : Act → World → Prop} (s : ByteArray) (xs : List Int) (hx : xs = bytesOf s) (hs : s.size ≤ 9223372036854775807) (e : TypeId) (hw : Region.wanted o (yielded ops a.tmps) = true) {N : Tmp} (_hd : o.dst = some N)
    (hrun : (execOp a.eval o).run P W = .ok (.value (.slice (some ⟨W.heap.size, 0, none⟩) s.size (grownCap W s.size 0 e))) (Lib.bytesWorld W e s)) (hok : ok W.heap.size)
    (h : ∀ v1 w1, MR e w1 W.heap.size ok v1 xs → Below W.heap.size W w1 → True → True → Kc (a.put o.dst v1) w1) : if Region.wanted o (yielded ops a.tmps) = true then Oper.wp P o a W Kc Q else Kc (a.put o.dst undef) W := by
  subst hx
  exact event_step hw hrun (h _ _ (made W e s hs hok) (bytes_below (Below.refl _ _) (Nat.le_refl _) e s) trivial trivial)
end
end MR
/-! ### a row that is nil, or a marked one that is not empty; its laws bear the names of the own row's -/
/-- Nil, or a row that a conversion of a string that is not empty has made. -/
def NR (e : Nat) (w : World) (base : Nat) (ok : Nat → Prop) (v : Value) (xs : List Int) : Prop :=
  (v = .slice none 0 0 ∧ xs = []) ∨ (MR e w base ok v xs ∧ xs ≠ [])
namespace NR
section
variable {e base : Nat} {ok ok' : Nat → Prop} {w w1 : World} {v u : Value} {xs : List Int}
theorem R_nil (e : Nat) (w : World) (base : Nat) (ok : Nat → Prop) : NR e w base ok (.slice none 0 0) [] := Or.inl ⟨rfl, rfl⟩
theorem of_mark (h : MR e w base ok v xs) (hx : xs ≠ []) : NR e w base ok v xs := Or.inr ⟨h, hx⟩
theorem R_step (h : NR e w base ok v xs) (hm : ∀ k, ok k → k < w.heap.size → w1.heap[k]? = w.heap[k]?) : NR e w1 base ok v xs := h.imp id fun h => ⟨MR.R_step h.1 hm, h.2⟩
theorem R_mono (h : NR e w base ok v xs) (hok : ∀ k, ok k → ok' k) : NR e w base ok' v xs := h.imp id fun h => ⟨MR.R_mono h.1 hok, h.2⟩
theorem R_bound (h : NR e w base ok v xs) : NR e w base (fun k => ok k ∧ base ≤ k ∧ k < w.heap.size) v xs := h.imp id fun h => ⟨MR.R_bound h.1, h.2⟩
theorem R_below (h : NR e w base ok v xs) (hb : Below w.heap.size w w1) : NR e w1 base ok v xs := h.imp id fun h => ⟨MR.R_below h.1 hb, h.2⟩
theorem R_far (h : NR e w base ok v xs) {p : Addr} (hok : ∀ k, ok k → k ≠ p.block) (x : Value) : NR e (w.setCell p x) base ok v xs := h.imp id fun h => ⟨MR.R_far h.1 hok x, h.2⟩
theorem R_types (h : NR e w base ok v xs) {g t : Nat} {cells : Array Value} (hb : w.heap[g]? = some (.cells cells t (0, 0))) (ht : ∀ q, q ∈ [e] → q ≠ t) : NR e w base (fun k => ok k ∧ k ≠ g) v xs := h.imp id fun h => ⟨MR.R_types h.1 hb ht, h.2⟩
theorem R_slice (h : NR e w base ok v xs) : ∃ A c, v = .slice A xs.length c := by
  rcases h with ⟨hv, hx⟩ | ⟨h, _⟩
  · subst hv hx
    exact ⟨none, 0, rfl⟩
  · exact MR.R_slice h
theorem R_reads' {A : Option Addr} {n c : Nat} (h : NR e w base ok (.slice A n c) xs) : n = xs.length ∧ n ≤ c ∧ Kd.C (Kd.int .u8) w A xs.length xs := by
  rcases h with ⟨hv, hx⟩ | ⟨h, _⟩
  · injection hv with h1 h2 h3
    subst h1 h2 h3 hx
    exact ⟨rfl, Nat.le_refl _, Kd.C_of_reads (d := 0) (h1 := fun _ => rfl) ⟨rfl, by simp, fun hp => absurd hp (by simp)⟩⟩
  · exact MR.R_reads' h
theorem nil_of (h : NR e w base ok v xs) (hx : ((xs.length : Int) == 0) = true) : v = .slice none 0 0 ∧ xs = [] := by
  rcases h with h | ⟨_, h⟩
  · exact h
  · simp at hx
    exact absurd hx h
theorem some_of (h : NR e w base ok v xs) (hx : ((xs.length : Int) == 0) = false) : ∃ a c, v = .slice (some a) xs.length c := by
  rcases h with ⟨_, h⟩ | ⟨h, _⟩
  · subst h
    simp at hx
  · obtain ⟨g, c, C, fr, hv, _⟩ := h
    exact ⟨_, _, hv⟩
theorem R_lower {base' : Nat} (h : NR e w base ok v xs) (hb : base' ≤ base) : NR e w base' ok v xs := h.imp id fun h => ⟨MR.R_lower h.1 hb, h.2⟩
theorem R_own (h : NR e w base ok v xs) : ∀ k, v.ownBlock = some k → base ≤ k ∧ k < w.heap.size := by
  rcases h with ⟨hv, hx⟩ | ⟨h, _⟩
  · subst hv
    intro k hk
    simp [Value.ownBlock] at hk
  · exact MR.R_own h
theorem R_base (h : NR e w base ok v xs) : ∀ k, v.ownBlock = some k → base ≤ k := fun k hk => (R_own h k hk).1
theorem R_lt (h : NR e w base ok v xs) : ∀ k, v.ownBlock = some k → k < w.heap.size := fun k hk => (R_own h k hk).2
theorem R_alloc (h : NR e w base ok v xs) (o : Obj) : NR e (w.alloc o) base ok v xs := R_below h (below_alloc (Below.refl _ _) o)
theorem R_drew (h : NR e w base ok v xs) : NR e w.drew base ok v xs := R_below h (below_drew (Below.refl _ _))
theorem R_drewN (h : NR e w base ok v xs) (m : Nat) : NR e (w.drewN m) base ok v xs := R_below h (pw_below_drewN (Below.refl _ _) m)
theorem R_elder' (hu : NR e w base ok u xs) (hbase : ∀ k, v.ownBlock = some k → w.heap.size ≤ k) (hb : Below w.heap.size w w1) : NR e w1 base (fun k => ok k ∧ some k ≠ v.ownBlock) u xs :=
  R_below (R_mono (R_bound hu) (fun k hk => ⟨hk.1, fun he => by have := hbase k he.symm; have := hk.2.2; omega⟩)) hb
theorem R_elderB (h : NR e w base ok v xs) (a : Nat) (ha : w.heap.size ≤ a) : NR e w base (fun k => ok k ∧ k ≠ a) v xs := R_mono (R_bound h) (fun k hk => ⟨hk.1, by have := hk.2.2; omega⟩)
theorem R_new' (h : NR e w1 w.heap.size ok v xs) (hlt : ∀ k, u.ownBlock = some k → k < w.heap.size) : NR e w1 w.heap.size (fun k => ok k ∧ some k ≠ u.ownBlock) v xs :=
  R_mono (R_bound h) (fun k hk => ⟨hk.1, fun he => by have := hlt k he.symm; have := hk.2.1; omega⟩)
theorem R_newB {g : Nat} {o : Obj} (h : NR e w1 w.heap.size ok v xs) (hb : w.heap[g]? = some o) : NR e w1 w.heap.size (fun k => ok k ∧ k ≠ g) v xs := R_mono (R_bound h) (fun k hk => ⟨hk.1, by have := blk_lt hb; have := hk.2.1; omega⟩)
end
end NR

theorem ne_of_size {s : ByteArray} (h : 0 < s.size) : bytesOf s ≠ [] := by
  intro he
  have := bytesOf_length s
  rw [he] at this
  simp at this
  omega
/-! ### amanuensisref08_Designate: function 17 -/
def amanuensisref08_Designate.l0 : Nat → Int → Int → List Int → List (S38) → Int → Option (List Int × Bool)
  | 0, _, _, _, _, _ => none
  | k + 1, x0, x1, x6, x7, x8 => if x8 < (x7.length : Int) then (if 0 ≤ x8 then (if ((rd_T38 x7 x8).f1) = x0 then (if ((rd_T38 x7 x8).f2) = x1 then (if 0 < ((rd_T38 x7 x8).f0).size then (if ((rd_T38 x7 x8).f0).size ≤ 9223372036854775807 then (if (x6.length : Int) = 0 then (amanuensisref08_Designate.l0 k x0 x1 ((bytesOf ((rd_T38 x7 x8).f0))) x7 (wrap64 (x8 + 1))) else ((amanuensisref08_Less.f k ((bytesOf ((rd_T38 x7 x8).f0))) x6).bind fun t170 => (if t170 = true then (amanuensisref08_Designate.l0 k x0 x1 ((bytesOf ((rd_T38 x7 x8).f0))) x7 (wrap64 (x8 + 1))) else (amanuensisref08_Designate.l0 k x0 x1 x6 x7 (wrap64 (x8 + 1)))))) else none) else none) else (amanuensisref08_Designate.l0 k x0 x1 x6 x7 (wrap64 (x8 + 1)))) else (amanuensisref08_Designate.l0 k x0 x1 x6 x7 (wrap64 (x8 + 1)))) else (none)) else (some (x6, ((x6.length : Int) != 0)))
def amanuensisref08_Designate.f (k : Nat) (a0 : Int) (a1 : Int) : Option (List Int × Bool) := (amanuensisref08_Escapes.f k).bind fun t157 => (amanuensisref08_Designate.l0 k a0 a1 ([] : List Int) t157 0)
theorem amanuensisref08_Designate.mono_l : ∀ k, (∀ y0 y1 y2 y3 y4, LeO (amanuensisref08_Designate.l0 k y0 y1 y2 y3 y4) (amanuensisref08_Designate.l0 (k + 1) y0 y1 y2 y3 y4))
  | 0 => fun _ _ _ _ _ r h => by simp [amanuensisref08_Designate.l0] at h
  | k + 1 => by
    have ih0 := amanuensisref08_Designate.mono_l k
    · intro y0 y1 y2 y3 y4
      unfold amanuensisref08_Designate.l0
      repeat' first
      | (with_reducible exact ih0 _ _ _ _ _)
      | (with_reducible exact amanuensisref08_Escapes.mono _)
      | (with_reducible exact amanuensisref08_Less.mono _ _ _)
      | (with_reducible exact LeO.refl _)
      | (with_reducible exact LeO.none _)
      | (with_reducible refine LeO.ite ?_ ?_)
      | (with_reducible refine LeO.bind ?_ (fun _ => ?_))
      | exact ih0 _ _ _ _ _
      | exact amanuensisref08_Escapes.mono _
      | exact amanuensisref08_Less.mono _ _ _
      | exact LeO.none _
      | refine LeO.ite ?_ ?_
      | refine LeO.bind ?_ (fun _ => ?_)
theorem amanuensisref08_Designate.mono : ∀ a0 a1 k, LeO (amanuensisref08_Designate.f k a0 a1) (amanuensisref08_Designate.f (k + 1) a0 a1) := by
  intro a0 a1 k
  have ih0 := amanuensisref08_Designate.mono_l k
  unfold amanuensisref08_Designate.f
  repeat' first
      | (with_reducible exact ih0 _ _ _ _ _)
      | (with_reducible exact amanuensisref08_Escapes.mono _)
      | (with_reducible exact amanuensisref08_Less.mono _ _ _)
      | (with_reducible exact LeO.refl _)
      | (with_reducible exact LeO.none _)
      | (with_reducible refine LeO.ite ?_ ?_)
      | (with_reducible refine LeO.bind ?_ (fun _ => ?_))
      | exact ih0 _ _ _ _ _
      | exact amanuensisref08_Escapes.mono _
      | exact amanuensisref08_Less.mono _ _ _
      | exact LeO.none _
      | refine LeO.ite ?_ ?_
      | refine LeO.bind ?_ (fun _ => ?_)
set_option maxHeartbeats 8000000 in
set_option maxRecDepth 100000 in
theorem amanuensisref08_Designate.calls (k : Nat) (a0 : Int) (a1 : Int) (r1 : List Int) (r2 : Bool) (w : World) (h : amanuensisref08_Designate.f k a0 a1 = some (r1, r2)) :
    Calls Try.prog 17 #[.int .i64 a0, .int .i64 a1] w fun e w' => ∃ v0_ : Value, e = .returned (.tuple #[v0_, .bool r2]) ∧ NR 5 w' w.heap.size (fun _ => True) v0_ r1 ∧ Below w.heap.size w w' := by
  have HB := Aside0.mk (Below.refl w.heap.size w)
  have H : ((amanuensisref08_Escapes.f k).bind fun t157 => (amanuensisref08_Designate.l0 k a0 a1 ([] : List Int) t157 0)) = some (r1, r2) := h
  clear h
  replace H := Option.bind_eq_some_iff.mp H
  obtain ⟨t157, A30, H⟩ := H
  replace H : (amanuensisref08_Designate.l0 k a0 a1 ([] : List Int) t157 0) = some (r1, r2) := H
  have A3 := Aside0.mk A30
  clear A30
  have H' := Aside0.mk H
  clear H
  have kb := fun (s : ByteArray) (W : World) => print_bytes (P := Try.prog) 9 22 5 Try.underlying9 Try.underlying22 Try.underlying5 s W
  have kn0 : ∀ W : World, (binOp BinOp.eql 22 (Value.slice none 0 0) (Value.slice none 0 0)).run Try.prog W = .ok (.bool true) W := fun W => Lib.run_eql_slice_nil (P := Try.prog) W 22 5 none 0 0 0 0 Try.underlying22
  have kn1 : ∀ (W : World) (a : Addr) (n c : Nat), (binOp BinOp.eql 22 (Value.slice (some a) n c) (Value.slice none 0 0)).run Try.prog W = .ok (.bool false) W := fun W a n c => Lib.run_eql_slice_nil (P := Try.prog) W 22 5 (some a) n c 0 0 Try.underlying22
  have kn2 : ∀ W : World, (binOp BinOp.neq 22 (Value.slice none 0 0) (Value.slice none 0 0)).run Try.prog W = .ok (.bool false) W := fun W => Go.run_neq_slice_nil_any (P := Try.prog) W 22 5 none 0 0 0 0 Try.underlying22
  have kn3 : ∀ (W : World) (a : Addr) (n c : Nat), (binOp BinOp.neq 22 (Value.slice (some a) n c) (Value.slice none 0 0)).run Try.prog W = .ok (.bool true) W := fun W a n c => Go.run_neq_slice_nil_any (P := Try.prog) W 22 5 (some a) n c 0 0 Try.underlying22
  go_enter Try.func17, Try.ntmps17
  go_wp2_with (first | ((with_reducible refine gate_callee (f := 15) rfl ?_); refine goesL_ (some 9) rfl rfl Try.func15 (by kernel_rfl) rfl #[] rfl (by (try simp only [List.map_toArray, List.map_cons, List.map_nil]); first | done | rfl | (simp only [List.length_drop, List.length_take]; rfl)) ?_; (with_reducible refine (amanuensisref08_Escapes.calls k  t157 _ A3.out).mono ?_); rintro e w4 ⟨v158, rfl, ho0, hb⟩; refine ⟨_, rfl, ?_⟩; have n0_ := Aside0.mk (Kd.R_lower ho0 (below_size (by repeat (first | (with_reducible first | exact HB.out | apply below_alloc | apply pw_below_drewN | apply below_drew1) | exact HB.out)))); have n1_ := Aside0.mk (below_step (by repeat (first | (with_reducible first | exact HB.out | apply below_alloc | apply pw_below_drewN | apply below_drew1) | exact HB.out)) hb); clear HB; have HO159 := n0_; have HB := n1_; clear n0_ n1_; (try clear hb); (try clear hb2); (try clear hk); (try clear hi); (try clear ho0)))
  go_loopg [6, 8] k (fun kq v6 v8 w' => ∃ (x6_1 : List Int) (x8_1 : Int), v8 = .int .i64 x8_1 ∧ Aside0 (amanuensisref08_Designate.l0 kq a0 a1 x6_1 t157 x8_1 = some (r1, r2)) ∧ Aside0 (kq ≤ k) ∧ Aside0 (NR 5 w' w.heap.size (fun _ => True) v6 x6_1) ∧ Aside0 (Kd.R k38 38 w' w.heap.size (fun _ => True) v158 t157) ∧ Aside0 (Below w.heap.size w w'))
  case atStart => exact ⟨(([] : List Int)), (0), rfl, H', ⟨Nat.le_refl _⟩, ⟨NR.R_nil _ _ _ _⟩, ⟨by (with_reducible repeat (first | apply Kd.R_alloc | apply Kd.R_drewN | apply Kd.R_drew)); exact HO159.out⟩, ⟨by repeat (first | (with_reducible first | exact HB.out | apply below_alloc | apply pw_below_drewN | apply below_drew1) | exact HB.out)⟩⟩
  case round =>
    clear H'
    try clear c1
    try clear p2
    obtain ⟨x6_1, x8_1, rfl, HA, HK1, HO_6, HO_7, HB⟩ := hrel
    cases gk with
    | zero => exact absurd HA.out (by simp [amanuensisref08_Designate.l0])
    | succ k1 =>
      have H := HA.out
      clear HA
      simp only [amanuensisref08_Designate.l0] at H
      by_cases c5 : x8_1 < (t157.length : Int)
      · rw [if_pos c5] at H
        have c5b0 : decide (x8_1 < (t157.length : Int)) = true := decide_eq_true c5
        clear c5
        by_cases c6 : 0 ≤ x8_1
        · rw [if_pos c6] at H
          have c6b0 : decide (0 ≤ x8_1) = true := decide_eq_true c6
          clear c6
          by_cases c7 : ((rd_T38 t157 x8_1).f1) = a0
          · rw [if_pos c7] at H
            have c7b0 : (((rd_T38 t157 x8_1).f1) == a0) = true := beq_iff_eq.mpr c7
            have c7b1 : (((rd_T38 t157 x8_1).f1) != a0) = false := bne_eq_false_iff_eq.mpr c7
            clear c7
            by_cases c8 : ((rd_T38 t157 x8_1).f2) = a1
            · rw [if_pos c8] at H
              have c8b0 : (((rd_T38 t157 x8_1).f2) == a1) = true := beq_iff_eq.mpr c8
              have c8b1 : (((rd_T38 t157 x8_1).f2) != a1) = false := bne_eq_false_iff_eq.mpr c8
              clear c8
              by_cases cS0 : 0 < ((rd_T38 t157 x8_1).f0).size
              case neg => rw [if_neg cS0] at H; exact absurd H (by simp)
              rw [if_pos cS0] at H
              by_cases cS1 : ((rd_T38 t157 x8_1).f0).size ≤ 9223372036854775807
              case neg => rw [if_neg cS1] at H; exact absurd H (by simp)
              rw [if_pos cS1] at H
              have HS0 := Aside0.mk cS0
              have HS1 := Aside0.mk cS1
              clear cS0 cS1
              by_cases c9 : (x6_1.length : Int) = 0
              · rw [if_pos c9] at H
                have c9b0 : ((x6_1.length : Int) == 0) = true := beq_iff_eq.mpr c9
                have c9b1 : ((x6_1.length : Int) != 0) = false := bne_eq_false_iff_eq.mpr c9
                clear c9
                obtain ⟨y163, hy163⟩ : ∃ y_ : List Int, y_ = (bytesOf ((rd_T38 t157 x8_1).f0)) := ⟨_, rfl⟩
                replace H : (amanuensisref08_Designate.l0 k1 a0 a1 y163 t157 (wrap64 (x8_1 + 1))) = some (r1, r2) := by first | (rw [hy163]; with_reducible exact H) | (have H2_ := (Option.bind_some _ _).symm.trans H; rw [hy163]; with_reducible exact H2_) | (have H2_ := (Option.bind_some _ _).symm.trans H; with_reducible exact H2_) | with_reducible exact H | (rw [hy163]; exact H) | exact H
                have Ny163 := Aside0.mk hy163
                clear hy163
                have H' := Aside0.mk H
                clear H
                obtain ⟨Ao10, co10, eo10⟩ := Kd.R_slice HO_7.out
                subst eo10
                have p160 : 0 ≤ (x8_1 : Int) := of_decide_eq_true (by first | (with_reducible assumption) | assumption)
                have q160 : x8_1 < (t157.length : Int) := of_decide_eq_true (by first | (with_reducible assumption) | assumption)
                obtain ⟨ad160, e160, hx160_0, hx160_1, hx160_2⟩ := at_T38 (Kd.R_reads' HO_7.out).2.2 x8_1 p160 q160
                cases e160
                replace p160 := eq_true p160
                replace q160 := eq_true q160
                have p161 : 0 ≤ (x8_1 : Int) := of_decide_eq_true (by first | (with_reducible assumption) | assumption)
                have q161 : x8_1 < (t157.length : Int) := of_decide_eq_true (by first | (with_reducible assumption) | assumption)
                obtain ⟨ad161, e161, hx161_0, hx161_1, hx161_2⟩ := at_T38 (Kd.R_reads' HO_7.out).2.2 x8_1 p161 q161
                obtain rfl : ad160 = ad161 := (by injection e161)
                replace p161 := eq_true p161
                replace q161 := eq_true q161
                obtain ⟨eo11, ex11⟩ := NR.nil_of HO_6.out c9b0
                subst eo11 ex11
                have p162 : 0 ≤ (x8_1 : Int) := of_decide_eq_true (by first | (with_reducible assumption) | assumption)
                have q162 : x8_1 < (t157.length : Int) := of_decide_eq_true (by first | (with_reducible assumption) | assumption)
                obtain ⟨ad162, e162, hx162_0, hx162_1, hx162_2⟩ := at_T38 (Kd.R_reads' HO_7.out).2.2 x8_1 p162 q162
                obtain rfl : ad160 = ad162 := (by injection e162)
                replace p162 := eq_true p162
                replace q162 := eq_true q162
                go_wp2_with (first | ((with_reducible refine gate_dst (N := 51) rfl ?_); (try (refine gate_guard (by rfl) ?_; dsimp only)); refine MR.lit (ok := fun _ => True) ((rd_T38 t157 x8_1).f0) y163 Ny163.out HS1.out 5 ?hg (N := 51) ?hd ?hr trivial ?_; (case hd => rfl); (case hg => rfl); (case hr => first | (go_simp; done) | (go_simp; rfl)); intro v164 w12 ho13 hb hg_ hnew_; clear hg_ hnew_; have n0_ := Aside0.mk (NR.R_elder' (by (with_reducible repeat (first | apply NR.R_alloc | apply NR.R_drewN | apply NR.R_drew)); exact HO_6.out) (MR.R_base ho13) hb); have n1_ := Aside0.mk (Kd.R_below (by (with_reducible repeat (first | apply Kd.R_alloc | apply Kd.R_drewN | apply Kd.R_drew)); exact HO_7.out) hb); have n2_ := Aside0.mk (MR.R_lower (MR.R_new' ho13 (NR.R_lt (by (with_reducible repeat (first | apply NR.R_alloc | apply NR.R_drewN | apply NR.R_drew)); exact HO_6.out))) (below_size (by repeat (first | (with_reducible first | exact HB.out | apply below_alloc | apply pw_below_drewN | apply below_drew1) | exact HB.out)))); have n3_ := Aside0.mk (below_step (by repeat (first | (with_reducible first | exact HB.out | apply below_alloc | apply pw_below_drewN | apply below_drew1) | exact HB.out)) hb); clear HO_6; clear HO_7; clear HB; have HO_6 := n0_; have HO_7 := n1_; have HO165 := n2_; have HB := n3_; clear n0_ n1_ n2_ n3_; clear hb ho13))
                go_roundg k1
                case measure => have := HK1.out; omega
                case rel => exact ⟨(y163), (wrap64 (x8_1 + 1)), (by first | rfl | (simp; done) | (simp [*]; done)), H', ⟨by have := HK1.out; omega⟩, ⟨by (with_reducible repeat (first | apply Kd.R_alloc | apply Kd.R_drewN | apply Kd.R_drew)); exact NR.of_mark (MR.R_mono HO165.out (fun _ hk => trivial)) (by rw [Ny163.out]; exact ne_of_size HS0.out)⟩, ⟨by (with_reducible repeat (first | apply Kd.R_alloc | apply Kd.R_drewN | apply Kd.R_drew)); exact HO_7.out⟩, ⟨by repeat (first | (with_reducible first | exact HB.out | apply below_alloc | apply pw_below_drewN | apply below_drew1) | exact HB.out)⟩⟩
              · rw [if_neg c9] at H
                have c9b0 : ((x6_1.length : Int) == 0) = false := beq_eq_false_iff_ne.mpr c9
                have c9b1 : ((x6_1.length : Int) != 0) = true := bne_iff_ne.mpr c9
                have c9b2 : ¬ (x6_1 = []) := fun h_ => c9 (by rw [h_]; rfl)
                obtain ⟨y167, hy167⟩ : ∃ y_ : List Int, y_ = (bytesOf ((rd_T38 t157 x8_1).f0)) := ⟨_, rfl⟩
                replace H : ((amanuensisref08_Less.f k1 y167 x6_1).bind fun t170 => (if t170 = true then (amanuensisref08_Designate.l0 k1 a0 a1 (bytesOf ((rd_T38 t157 x8_1).f0)) t157 (wrap64 (x8_1 + 1))) else (amanuensisref08_Designate.l0 k1 a0 a1 x6_1 t157 (wrap64 (x8_1 + 1))))) = some (r1, r2) := by first | (rw [hy167]; with_reducible exact H) | (have H2_ := (Option.bind_some _ _).symm.trans H; rw [hy167]; with_reducible exact H2_) | (have H2_ := (Option.bind_some _ _).symm.trans H; with_reducible exact H2_) | with_reducible exact H | (rw [hy167]; exact H) | exact H
                have Ny167 := Aside0.mk hy167
                clear hy167
                replace H := Option.bind_eq_some_iff.mp H
                obtain ⟨t170, A140, H⟩ := H
                replace H : (if t170 = true then (amanuensisref08_Designate.l0 k1 a0 a1 (bytesOf ((rd_T38 t157 x8_1).f0)) t157 (wrap64 (x8_1 + 1))) else (amanuensisref08_Designate.l0 k1 a0 a1 x6_1 t157 (wrap64 (x8_1 + 1)))) = some (r1, r2) := H
                have A14 := Aside0.mk A140
                clear A140
                by_cases c15 : t170 = true
                · subst c15
                  have H1 : (amanuensisref08_Designate.l0 k1 a0 a1 (bytesOf ((rd_T38 t157 x8_1).f0)) t157 (wrap64 (x8_1 + 1))) = some (r1, r2) := by rw [if_pos rfl] at H; exact H
                  clear H
                  have H := H1
                  clear H1
                  obtain ⟨y172, hy172⟩ : ∃ y_ : List Int, y_ = (bytesOf ((rd_T38 t157 x8_1).f0)) := ⟨_, rfl⟩
                  replace H : (amanuensisref08_Designate.l0 k1 a0 a1 y172 t157 (wrap64 (x8_1 + 1))) = some (r1, r2) := by first | (rw [hy172]; with_reducible exact H) | (have H2_ := (Option.bind_some _ _).symm.trans H; rw [hy172]; with_reducible exact H2_) | (have H2_ := (Option.bind_some _ _).symm.trans H; with_reducible exact H2_) | with_reducible exact H | (rw [hy172]; exact H) | exact H
                  have Ny172 := Aside0.mk hy172
                  clear hy172
                  have H' := Aside0.mk H
                  clear H
                  obtain ⟨Ao16, co16, eo16⟩ := Kd.R_slice HO_7.out
                  subst eo16
                  have p160 : 0 ≤ (x8_1 : Int) := of_decide_eq_true (by first | (with_reducible assumption) | assumption)
                  have q160 : x8_1 < (t157.length : Int) := of_decide_eq_true (by first | (with_reducible assumption) | assumption)
                  obtain ⟨ad160, e160, hx160_0, hx160_1, hx160_2⟩ := at_T38 (Kd.R_reads' HO_7.out).2.2 x8_1 p160 q160
                  cases e160
                  replace p160 := eq_true p160
                  replace q160 := eq_true q160
                  have p161 : 0 ≤ (x8_1 : Int) := of_decide_eq_true (by first | (with_reducible assumption) | assumption)
                  have q161 : x8_1 < (t157.length : Int) := of_decide_eq_true (by first | (with_reducible assumption) | assumption)
                  obtain ⟨ad161, e161, hx161_0, hx161_1, hx161_2⟩ := at_T38 (Kd.R_reads' HO_7.out).2.2 x8_1 p161 q161
                  obtain rfl : ad160 = ad161 := (by injection e161)
                  replace p161 := eq_true p161
                  replace q161 := eq_true q161
                  obtain ⟨Ao17, co17, eo17⟩ := NR.some_of HO_6.out c9b0
                  subst eo17
                  have p166 : 0 ≤ (x8_1 : Int) := of_decide_eq_true (by first | (with_reducible assumption) | assumption)
                  have q166 : x8_1 < (t157.length : Int) := of_decide_eq_true (by first | (with_reducible assumption) | assumption)
                  obtain ⟨ad166, e166, hx166_0, hx166_1, hx166_2⟩ := at_T38 (Kd.R_reads' HO_7.out).2.2 x8_1 p166 q166
                  obtain rfl : ad160 = ad166 := (by injection e166)
                  replace p166 := eq_true p166
                  replace q166 := eq_true q166
                  go_wp2_with (first | ((with_reducible refine gate_dst (N := 41) rfl ?_); (try (refine gate_guard (by rfl) ?_; dsimp only)); refine MR.lit (ok := fun _ => True) ((rd_T38 t157 x8_1).f0) y167 Ny167.out HS1.out 5 ?hg (N := 41) ?hd ?hr trivial ?_; (case hd => rfl); (case hg => rfl); (case hr => first | (go_simp; done) | (go_simp; rfl)); intro v168 w18 ho19 hb hg_ hnew_; clear hg_ hnew_; have n0_ := Aside0.mk (NR.R_elder' (by (with_reducible repeat (first | apply NR.R_alloc | apply NR.R_drewN | apply NR.R_drew)); exact HO_6.out) (MR.R_base ho19) hb); have n1_ := Aside0.mk (Kd.R_below (by (with_reducible repeat (first | apply Kd.R_alloc | apply Kd.R_drewN | apply Kd.R_drew)); exact HO_7.out) hb); have n2_ := Aside0.mk (MR.R_lower (MR.R_new' ho19 (NR.R_lt (by (with_reducible repeat (first | apply NR.R_alloc | apply NR.R_drewN | apply NR.R_drew)); exact HO_6.out))) (below_size (by repeat (first | (with_reducible first | exact HB.out | apply below_alloc | apply pw_below_drewN | apply below_drew1) | exact HB.out)))); have n3_ := Aside0.mk (below_step (by repeat (first | (with_reducible first | exact HB.out | apply below_alloc | apply pw_below_drewN | apply below_drew1) | exact HB.out)) hb); clear HO_6; clear HO_7; clear HB; have HO_6 := n0_; have HO_7 := n1_; have HO169 := n2_; have HB := n3_; clear n0_ n1_ n2_ n3_; clear hb ho19; obtain ⟨Ao20, co20, eo20⟩ := MR.R_slice HO169.out; subst eo20) | (go_at_call 16; (with_reducible refine (amanuensisref08_Less.calls k1 _ _ y167 _ _ x6_1 true _ ?side1 ?side2 ?side3 ?side4 A14.out).mono ?_); (case side1 => repeat (first | exact (MR.R_reads' HO169.out).2.2 | (with_reducible refine Kd.C_alloc ?_ _) | (with_reducible refine Kd.C_drewN ?_ _) | (with_reducible refine Kd.C_drew ?_))); (case side2 => exact (MR.R_reads' HO169.out).2.1); (case side3 => repeat (first | exact (NR.R_reads' HO_6.out).2.2 | (with_reducible refine Kd.C_alloc ?_ _) | (with_reducible refine Kd.C_drewN ?_ _) | (with_reducible refine Kd.C_drew ?_))); (case side4 => exact (NR.R_reads' HO_6.out).2.1); rintro e w' ⟨rfl, ⟨nd, rfl⟩⟩; have p171 : 0 ≤ (x8_1 : Int) := of_decide_eq_true (by first | (with_reducible assumption) | assumption); have q171 : x8_1 < (t157.length : Int) := of_decide_eq_true (by first | (with_reducible assumption) | assumption); obtain ⟨ad171, e171, hx171_0, hx171_1, hx171_2⟩ := at_T38 (Kd.R_reads' HO_7.out).2.2 x8_1 p171 q171; obtain rfl : ad160 = ad171 := (by injection e171); replace p171 := eq_true p171; replace q171 := eq_true q171) | ((with_reducible refine gate_dst (N := 51) rfl ?_); (try (refine gate_guard (by rfl) ?_; dsimp only)); refine MR.lit (ok := fun _ => True) ((rd_T38 t157 x8_1).f0) y172 Ny172.out HS1.out 5 ?hg (N := 51) ?hd ?hr trivial ?_; (case hd => rfl); (case hg => rfl); (case hr => first | (go_simp; done) | (go_simp; rfl)); intro v173 w21 ho22 hb hg_ hnew_; clear hg_ hnew_; have n0_ := Aside0.mk (NR.R_elder' (by (with_reducible repeat (first | apply NR.R_alloc | apply NR.R_drewN | apply NR.R_drew)); exact HO_6.out) (MR.R_base ho22) hb); have n1_ := Aside0.mk (Kd.R_below (by (with_reducible repeat (first | apply Kd.R_alloc | apply Kd.R_drewN | apply Kd.R_drew)); exact HO_7.out) hb); have n2_ := Aside0.mk (MR.R_elder' (by (with_reducible repeat (first | apply MR.R_alloc | apply MR.R_drewN | apply MR.R_drew)); exact HO169.out) (MR.R_base ho22) hb); have n3_ := Aside0.mk (MR.R_lower (MR.R_new' (MR.R_new' ho22 (NR.R_lt (by (with_reducible repeat (first | apply NR.R_alloc | apply NR.R_drewN | apply NR.R_drew)); exact HO_6.out))) (MR.R_lt (by (with_reducible repeat (first | apply MR.R_alloc | apply MR.R_drewN | apply MR.R_drew)); exact HO169.out))) (below_size (by repeat (first | (with_reducible first | exact HB.out | apply below_alloc | apply pw_below_drewN | apply below_drew1) | exact HB.out)))); have n4_ := Aside0.mk (below_step (by repeat (first | (with_reducible first | exact HB.out | apply below_alloc | apply pw_below_drewN | apply below_drew1) | exact HB.out)) hb); clear HO_6; clear HO_7; clear HO169; clear HB; have HO_6 := n0_; have HO_7 := n1_; have HO169 := n2_; have HO174 := n3_; have HB := n4_; clear n0_ n1_ n2_ n3_ n4_; clear hb ho22))
                  go_roundg k1
                  case measure => have := HK1.out; omega
                  case rel => exact ⟨(y172), (wrap64 (x8_1 + 1)), (by first | rfl | (simp; done) | (simp [*]; done)), H', ⟨by have := HK1.out; omega⟩, ⟨by (with_reducible repeat (first | apply Kd.R_alloc | apply Kd.R_drewN | apply Kd.R_drew)); exact NR.of_mark (MR.R_mono HO174.out (fun _ hk => trivial)) (by rw [Ny172.out]; exact ne_of_size HS0.out)⟩, ⟨by (with_reducible repeat (first | apply Kd.R_alloc | apply Kd.R_drewN | apply Kd.R_drew)); exact HO_7.out⟩, ⟨by repeat (first | (with_reducible first | exact HB.out | apply below_alloc | apply pw_below_drewN | apply below_drew1) | exact HB.out)⟩⟩
                · replace c15 := Bool.eq_false_iff.mpr c15
                  subst c15
                  have H1 : (amanuensisref08_Designate.l0 k1 a0 a1 x6_1 t157 (wrap64 (x8_1 + 1))) = some (r1, r2) := by rw [if_neg (show ¬ (false = true) by decide)] at H; exact H
                  clear H
                  have H := H1
                  clear H1
                  have H' := Aside0.mk H
                  clear H
                  obtain ⟨Ao23, co23, eo23⟩ := Kd.R_slice HO_7.out
                  subst eo23
                  have p160 : 0 ≤ (x8_1 : Int) := of_decide_eq_true (by first | (with_reducible assumption) | assumption)
                  have q160 : x8_1 < (t157.length : Int) := of_decide_eq_true (by first | (with_reducible assumption) | assumption)
                  obtain ⟨ad160, e160, hx160_0, hx160_1, hx160_2⟩ := at_T38 (Kd.R_reads' HO_7.out).2.2 x8_1 p160 q160
                  cases e160
                  replace p160 := eq_true p160
                  replace q160 := eq_true q160
                  have p161 : 0 ≤ (x8_1 : Int) := of_decide_eq_true (by first | (with_reducible assumption) | assumption)
                  have q161 : x8_1 < (t157.length : Int) := of_decide_eq_true (by first | (with_reducible assumption) | assumption)
                  obtain ⟨ad161, e161, hx161_0, hx161_1, hx161_2⟩ := at_T38 (Kd.R_reads' HO_7.out).2.2 x8_1 p161 q161
                  obtain rfl : ad160 = ad161 := (by injection e161)
                  replace p161 := eq_true p161
                  replace q161 := eq_true q161
                  obtain ⟨Ao24, co24, eo24⟩ := NR.some_of HO_6.out c9b0
                  subst eo24
                  have p166 : 0 ≤ (x8_1 : Int) := of_decide_eq_true (by first | (with_reducible assumption) | assumption)
                  have q166 : x8_1 < (t157.length : Int) := of_decide_eq_true (by first | (with_reducible assumption) | assumption)
                  obtain ⟨ad166, e166, hx166_0, hx166_1, hx166_2⟩ := at_T38 (Kd.R_reads' HO_7.out).2.2 x8_1 p166 q166
                  obtain rfl : ad160 = ad166 := (by injection e166)
                  replace p166 := eq_true p166
                  replace q166 := eq_true q166
                  go_wp2_with (first | ((with_reducible refine gate_dst (N := 41) rfl ?_); (try (refine gate_guard (by rfl) ?_; dsimp only)); refine MR.lit (ok := fun _ => True) ((rd_T38 t157 x8_1).f0) y167 Ny167.out HS1.out 5 ?hg (N := 41) ?hd ?hr trivial ?_; (case hd => rfl); (case hg => rfl); (case hr => first | (go_simp; done) | (go_simp; rfl)); intro v168 w25 ho26 hb hg_ hnew_; clear hg_ hnew_; have n0_ := Aside0.mk (NR.R_elder' (by (with_reducible repeat (first | apply NR.R_alloc | apply NR.R_drewN | apply NR.R_drew)); exact HO_6.out) (MR.R_base ho26) hb); have n1_ := Aside0.mk (Kd.R_below (by (with_reducible repeat (first | apply Kd.R_alloc | apply Kd.R_drewN | apply Kd.R_drew)); exact HO_7.out) hb); have n2_ := Aside0.mk (MR.R_lower (MR.R_new' ho26 (NR.R_lt (by (with_reducible repeat (first | apply NR.R_alloc | apply NR.R_drewN | apply NR.R_drew)); exact HO_6.out))) (below_size (by repeat (first | (with_reducible first | exact HB.out | apply below_alloc | apply pw_below_drewN | apply below_drew1) | exact HB.out)))); have n3_ := Aside0.mk (below_step (by repeat (first | (with_reducible first | exact HB.out | apply below_alloc | apply pw_below_drewN | apply below_drew1) | exact HB.out)) hb); clear HO_6; clear HO_7; clear HB; have HO_6 := n0_; have HO_7 := n1_; have HO169 := n2_; have HB := n3_; clear n0_ n1_ n2_ n3_; clear hb ho26; obtain ⟨Ao27, co27, eo27⟩ := MR.R_slice HO169.out; subst eo27) | (go_at_call 16; (with_reducible refine (amanuensisref08_Less.calls k1 _ _ y167 _ _ x6_1 false _ ?side1 ?side2 ?side3 ?side4 A14.out).mono ?_); (case side1 => repeat (first | exact (MR.R_reads' HO169.out).2.2 | (with_reducible refine Kd.C_alloc ?_ _) | (with_reducible refine Kd.C_drewN ?_ _) | (with_reducible refine Kd.C_drew ?_))); (case side2 => exact (MR.R_reads' HO169.out).2.1); (case side3 => repeat (first | exact (NR.R_reads' HO_6.out).2.2 | (with_reducible refine Kd.C_alloc ?_ _) | (with_reducible refine Kd.C_drewN ?_ _) | (with_reducible refine Kd.C_drew ?_))); (case side4 => exact (NR.R_reads' HO_6.out).2.1); rintro e w' ⟨rfl, ⟨nd, rfl⟩⟩))
                  go_roundg k1
                  case measure => have := HK1.out; omega
                  case rel => exact ⟨(x6_1), (wrap64 (x8_1 + 1)), (by first | rfl | (simp; done) | (simp [*]; done)), H', ⟨by have := HK1.out; omega⟩, ⟨by (with_reducible repeat (first | apply Kd.R_alloc | apply Kd.R_drewN | apply Kd.R_drew)); exact NR.R_mono HO_6.out (fun _ hk => trivial)⟩, ⟨by (with_reducible repeat (first | apply Kd.R_alloc | apply Kd.R_drewN | apply Kd.R_drew)); exact HO_7.out⟩, ⟨by repeat (first | (with_reducible first | exact HB.out | apply below_alloc | apply pw_below_drewN | apply below_drew1) | exact HB.out)⟩⟩
            · rw [if_neg c8] at H
              have c8b0 : (((rd_T38 t157 x8_1).f2) == a1) = false := beq_eq_false_iff_ne.mpr c8
              have c8b1 : (((rd_T38 t157 x8_1).f2) != a1) = true := bne_iff_ne.mpr c8
              have H' := Aside0.mk H
              clear H
              obtain ⟨Ao28, co28, eo28⟩ := Kd.R_slice HO_7.out
              subst eo28
              have p160 : 0 ≤ (x8_1 : Int) := of_decide_eq_true (by first | (with_reducible assumption) | assumption)
              have q160 : x8_1 < (t157.length : Int) := of_decide_eq_true (by first | (with_reducible assumption) | assumption)
              obtain ⟨ad160, e160, hx160_0, hx160_1, hx160_2⟩ := at_T38 (Kd.R_reads' HO_7.out).2.2 x8_1 p160 q160
              cases e160
              replace p160 := eq_true p160
              replace q160 := eq_true q160
              have p161 : 0 ≤ (x8_1 : Int) := of_decide_eq_true (by first | (with_reducible assumption) | assumption)
              have q161 : x8_1 < (t157.length : Int) := of_decide_eq_true (by first | (with_reducible assumption) | assumption)
              obtain ⟨ad161, e161, hx161_0, hx161_1, hx161_2⟩ := at_T38 (Kd.R_reads' HO_7.out).2.2 x8_1 p161 q161
              obtain rfl : ad160 = ad161 := (by injection e161)
              replace p161 := eq_true p161
              replace q161 := eq_true q161
              go_wp2
              go_roundg k1
              case measure => have := HK1.out; omega
              case rel => exact ⟨(x6_1), (wrap64 (x8_1 + 1)), (by first | rfl | (simp; done) | (simp [*]; done)), H', ⟨by have := HK1.out; omega⟩, ⟨by (with_reducible repeat (first | apply Kd.R_alloc | apply Kd.R_drewN | apply Kd.R_drew)); exact HO_6.out⟩, ⟨by (with_reducible repeat (first | apply Kd.R_alloc | apply Kd.R_drewN | apply Kd.R_drew)); exact HO_7.out⟩, ⟨by repeat (first | (with_reducible first | exact HB.out | apply below_alloc | apply pw_below_drewN | apply below_drew1) | exact HB.out)⟩⟩
          · rw [if_neg c7] at H
            have c7b0 : (((rd_T38 t157 x8_1).f1) == a0) = false := beq_eq_false_iff_ne.mpr c7
            have c7b1 : (((rd_T38 t157 x8_1).f1) != a0) = true := bne_iff_ne.mpr c7
            have H' := Aside0.mk H
            clear H
            obtain ⟨Ao29, co29, eo29⟩ := Kd.R_slice HO_7.out
            subst eo29
            have p160 : 0 ≤ (x8_1 : Int) := of_decide_eq_true (by first | (with_reducible assumption) | assumption)
            have q160 : x8_1 < (t157.length : Int) := of_decide_eq_true (by first | (with_reducible assumption) | assumption)
            obtain ⟨ad160, e160, hx160_0, hx160_1, hx160_2⟩ := at_T38 (Kd.R_reads' HO_7.out).2.2 x8_1 p160 q160
            cases e160
            replace p160 := eq_true p160
            replace q160 := eq_true q160
            go_wp2
            go_roundg k1
            case measure => have := HK1.out; omega
            case rel => exact ⟨(x6_1), (wrap64 (x8_1 + 1)), (by first | rfl | (simp; done) | (simp [*]; done)), H', ⟨by have := HK1.out; omega⟩, ⟨by (with_reducible repeat (first | apply Kd.R_alloc | apply Kd.R_drewN | apply Kd.R_drew)); exact HO_6.out⟩, ⟨by (with_reducible repeat (first | apply Kd.R_alloc | apply Kd.R_drewN | apply Kd.R_drew)); exact HO_7.out⟩, ⟨by repeat (first | (with_reducible first | exact HB.out | apply below_alloc | apply pw_below_drewN | apply below_drew1) | exact HB.out)⟩⟩
        · rw [if_neg c6] at H
          exact absurd H (by simp)
      · rw [if_neg c5] at H
        have c5b0 : decide (x8_1 < (t157.length : Int)) = false := decide_eq_false c5
        clear c5
        simp only [Option.some.injEq, Prod.mk.injEq] at H
        obtain ⟨rfl, rfl⟩ := H
        obtain ⟨Ao30, co30, eo30⟩ := Kd.R_slice HO_7.out
        subst eo30
        by_cases hz : ((x6_1.length : Int) == 0) = true
        · obtain ⟨eo31, ex31⟩ := NR.nil_of HO_6.out hz
          subst eo31 ex31
          go_wp2
          go_ret2
          exact ⟨_, by first | rfl | (simp; done) | (simp [*]; done), by (with_reducible repeat (first | apply NR.R_alloc | apply NR.R_drewN | apply NR.R_drew)); exact HO_6.out, by repeat (first | (with_reducible first | exact HB.out | apply below_alloc | apply pw_below_drewN | apply below_drew1) | exact HB.out)⟩
        · replace hz := Bool.eq_false_iff.mpr hz
          obtain ⟨Ao31, co31, eo31⟩ := NR.some_of HO_6.out hz
          subst eo31
          have hz1 : ((x6_1.length : Int) != 0) = true := by simpa using hz
          have hz2 := Aside0.mk hz1
          clear hz hz1
          go_wp2
          go_ret2
          exact ⟨.slice (some Ao31) x6_1.length co31, by first | rfl | (simp [hz2.out]; done) | (rw [hz2.out]), by (with_reducible repeat (first | apply NR.R_alloc | apply NR.R_drewN | apply NR.R_drew)); exact HO_6.out, by repeat (first | (with_reducible first | exact HB.out | apply below_alloc | apply pw_below_drewN | apply below_drew1) | exact HB.out)⟩
/-! ### sets_Sides: function 19 -/
def sets_Sides.j0 : Nat → Int → Bool → Option (List Int)
  | 0, _, _ => none
  | k + 1, x0, x3 => if x3 = true then (some ([] : List Int)) else ((sets_Small.f x0).bind fun t175 => (if t175 = true then (some (([0] : List Int))) else (some (([0, 1] : List Int)))))
def sets_Sides.f (k : Nat) (a0 : Int) : Option (List Int) := if a0 < 1 then (sets_Sides.j0 k a0 true) else (sets_Sides.j0 k a0 (decide (a0 > 12)))
theorem sets_Sides.mono_l : ∀ k, (∀ y0 y1, LeO (sets_Sides.j0 k y0 y1) (sets_Sides.j0 (k + 1) y0 y1))
  | 0 => fun _ _ r h => by simp [sets_Sides.j0] at h
  | k + 1 => by
    have ih0 := sets_Sides.mono_l k
    · intro y0 y1
      unfold sets_Sides.j0
      repeat' first
      | (with_reducible exact ih0 _ _)
      | (with_reducible exact LeO.refl _)
      | (with_reducible exact LeO.none _)
      | (with_reducible refine LeO.ite ?_ ?_)
      | (with_reducible refine LeO.bind ?_ (fun _ => ?_))
      | exact ih0 _ _
      | exact LeO.none _
      | refine LeO.ite ?_ ?_
      | refine LeO.bind ?_ (fun _ => ?_)
theorem sets_Sides.mono : ∀ a0 k, LeO (sets_Sides.f k a0) (sets_Sides.f (k + 1) a0) := by
  intro a0 k
  have ih0 := sets_Sides.mono_l k
  unfold sets_Sides.f
  repeat' first
      | (with_reducible exact ih0 _ _)
      | (with_reducible exact LeO.refl _)
      | (with_reducible exact LeO.none _)
      | (with_reducible refine LeO.ite ?_ ?_)
      | (with_reducible refine LeO.bind ?_ (fun _ => ?_))
      | exact ih0 _ _
      | exact LeO.none _
      | refine LeO.ite ?_ ?_
      | refine LeO.bind ?_ (fun _ => ?_)
set_option maxHeartbeats 8000000 in
set_option maxRecDepth 100000 in
theorem sets_Sides.calls (k : Nat) (a0 : Int) (r : List Int) (w : World) (h : sets_Sides.f k a0 = some r) :
    Calls Try.prog 19 #[.int .i64 a0] w fun e w' => ∃ v0_ : Value, e = .returned (v0_) ∧ Kd.R (Kd.int .i64) 3 w' w.heap.size (fun _ => True) v0_ r ∧ Below w.heap.size w w' := by
  have HB := Aside0.mk (Below.refl w.heap.size w)
  have H : (if a0 < 1 then (sets_Sides.j0 k a0 true) else (sets_Sides.j0 k a0 (decide (a0 > 12)))) = some r := h
  clear h
  have HC2 := Aside0.mk H
  clear H
  go_enter Try.func19, Try.ntmps19
  go_upto_region 1 with (fail)
  go_cut [3] (fun v3 wc => ∃ (kq : Nat) (x3_1 : Bool), v3 = .bool x3_1 ∧ Aside0 (sets_Sides.j0 kq a0 x3_1 = some r) ∧ Aside0 (kq ≤ k) ∧ Aside0 (Below w.heap.size w wc))
  case first =>
    have H := HC2.out
    clear HC2
    by_cases c3 : a0 < 1
    · rw [if_pos c3] at H
      have c3b0 : decide (a0 < 1) = true := decide_eq_true c3
      clear c3
      (first | rw [c3b0] | (simp only [i64_w, i32_w]; rw [c3b0]) | skip)
      have H' := Aside0.mk H
      clear H
      go_wp2
      go_meet
      case rel => exact ⟨_, (true), (by first | rfl | (simp; done) | (simp [*]; done)), H', ⟨by first | omega | exact Nat.le_refl _⟩, ⟨by repeat (first | (with_reducible first | exact HB.out | apply below_alloc | apply pw_below_drewN | apply below_drew1) | exact HB.out)⟩⟩
    · rw [if_neg c3] at H
      have c3b0 : decide (a0 < 1) = false := decide_eq_false c3
      clear c3
      (first | rw [c3b0] | (simp only [i64_w, i32_w]; rw [c3b0]) | skip)
      have H' := Aside0.mk H
      clear H
      go_wp2
      go_meet
      case rel => exact ⟨_, (decide (a0 > 12)), (by first | rfl | (simp; done) | (simp [*]; done)), H', ⟨by first | omega | exact Nat.le_refl _⟩, ⟨by repeat (first | (with_reducible first | exact HB.out | apply below_alloc | apply pw_below_drewN | apply below_drew1) | exact HB.out)⟩⟩
  case rest =>
    clear HC2
    try clear c1
    try clear p2
    try clear c3
    try clear c3b0
    obtain ⟨kq, x3_1, rfl, HA, HJ1, HB⟩ := hcut
    cases kq with
    | zero => exact absurd HA.out (by simp [sets_Sides.j0])
    | succ kj1 =>
      have H := HA.out
      clear HA
      simp only [sets_Sides.j0] at H
      by_cases c4 : x3_1 = true
      · subst c4
        have H1 : (some ([] : List Int)) = some r := by rw [if_pos rfl] at H; exact H
        clear H
        have H := H1
        clear H1
        obtain rfl := Option.some.inj H
        go_wp2
        go_ret
        exact ⟨_, by first | rfl | (simp [errW_none, errW_some] <;> rfl) | (simp [*, errW_none, errW_some] <;> rfl), by first | exact Kd.R_nil _ _ _ _ _ | exact Kd.N_nil _ _ _ _ _ | exact Kd.V_nil _ _ _ _ _ | exact Kd.Q_nil _ _ _ _ _ | exact Kd.S_nil _ _ _ _ _, by repeat (first | (with_reducible first | exact HB.out | apply below_alloc | apply pw_below_drewN | apply below_drew1) | exact HB.out)⟩
      · replace c4 := Bool.eq_false_iff.mpr c4
        subst c4
        have H1 : ((sets_Small.f a0).bind fun t175 => (if t175 = true then (some (([0] : List Int))) else (some (([0, 1] : List Int))))) = some r := by rw [if_neg (show ¬ (false = true) by decide)] at H; exact H
        clear H
        have H := H1
        clear H1
        replace H := Option.bind_eq_some_iff.mp H
        obtain ⟨t175, A50, H⟩ := H
        replace H : (if t175 = true then (some (([0] : List Int))) else (some (([0, 1] : List Int)))) = some r := H
        have A5 := Aside0.mk A50
        clear A50
        by_cases c6 : t175 = true
        · subst c6
          have H1 : (some (([0] : List Int))) = some r := by rw [if_pos rfl] at H; exact H
          clear H
          have H := H1
          clear H1
          obtain ⟨y176, hy176⟩ : ∃ y_ : List Int, y_ = (([0] : List Int)) := ⟨_, rfl⟩
          replace H : (some y176) = some r := by first | (rw [hy176]; with_reducible exact H) | (have H2_ := (Option.bind_some _ _).symm.trans H; rw [hy176]; with_reducible exact H2_) | (have H2_ := (Option.bind_some _ _).symm.trans H; with_reducible exact H2_) | with_reducible exact H | (rw [hy176]; exact H) | exact H
          have Ny176 := Aside0.mk hy176
          clear hy176
          obtain rfl := Option.some.inj H
          go_wp2_with (first | ((with_reducible refine gate_callee (f := 25) rfl ?_); refine goesL_ (some 12) rfl rfl Try.func25 (by kernel_rfl) rfl #[.int .i64 a0] rfl (by (try simp only [List.map_toArray, List.map_cons, List.map_nil]); first | done | rfl | (simp only [List.length_drop, List.length_take]; rfl)) ?_; (with_reducible refine (sets_Small.calls a0 true _ A5.out).mono ?_); rintro e w' ⟨rfl, ⟨nd, rfl⟩⟩; refine ⟨_, rfl, ?_⟩) | ((with_reducible refine gate_dst (N := 13) rfl ?_); refine Kd.R_lit (Kd.int .i64) _ 3 ?hg (N := 13) ?hd (xs := ([0] : List Int)) (inner := [.int .i64 0]) (ok := fun _ => True) (okp := fun _ => True) ?hr ?hp (fun _ hk => hk) trivial (Below.refl _ _) (Nat.le_refl _) (by simp) ?_; (case hd => rfl); (case hg => rfl); (case hr => first | (go_simp; done) | (go_simp; rfl)); (case hp => exact (Reps.one (show Kd.M (Kd.int .i64) _ _ _ 0 [.int .i64 0] from rfl) (Reps.none _ _))); intro v177 w7 ho8 hb hg_ hnew_; clear hg_ hnew_; (first | rw [← Ny176.out] at ho8 | (simp only [Int.reduceToNat] at ho8; rw [← Ny176.out] at ho8)); have n0_ := Aside0.mk (Kd.R_lower ho8 (below_size (by repeat (first | (with_reducible first | exact HB.out | apply below_alloc | apply pw_below_drewN | apply below_drew1) | exact HB.out)))); have n1_ := Aside0.mk (below_step (by repeat (first | (with_reducible first | exact HB.out | apply below_alloc | apply pw_below_drewN | apply below_drew1) | exact HB.out)) hb); clear HB; have HO178 := n0_; have HB := n1_; clear n0_ n1_; clear hb ho8))
          go_ret
          exact ⟨_, by first | rfl | (simp [errW_none, errW_some] <;> rfl) | (simp [*, errW_none, errW_some] <;> rfl), by (with_reducible repeat (first | apply Kd.R_alloc | apply Kd.R_drewN | apply Kd.R_drew)); exact HO178.out, by repeat (first | (with_reducible first | exact HB.out | apply below_alloc | apply pw_below_drewN | apply below_drew1) | exact HB.out)⟩
        · replace c6 := Bool.eq_false_iff.mpr c6
          subst c6
          have H1 : (some (([0, 1] : List Int))) = some r := by rw [if_neg (show ¬ (false = true) by decide)] at H; exact H
          clear H
          have H := H1
          clear H1
          obtain ⟨y179, hy179⟩ : ∃ y_ : List Int, y_ = (([0, 1] : List Int)) := ⟨_, rfl⟩
          replace H : (some y179) = some r := by first | (rw [hy179]; with_reducible exact H) | (have H2_ := (Option.bind_some _ _).symm.trans H; rw [hy179]; with_reducible exact H2_) | (have H2_ := (Option.bind_some _ _).symm.trans H; with_reducible exact H2_) | with_reducible exact H | (rw [hy179]; exact H) | exact H
          have Ny179 := Aside0.mk hy179
          clear hy179
          obtain rfl := Option.some.inj H
          go_wp2_with (first | ((with_reducible refine gate_callee (f := 25) rfl ?_); refine goesL_ (some 12) rfl rfl Try.func25 (by kernel_rfl) rfl #[.int .i64 a0] rfl (by (try simp only [List.map_toArray, List.map_cons, List.map_nil]); first | done | rfl | (simp only [List.length_drop, List.length_take]; rfl)) ?_; (with_reducible refine (sets_Small.calls a0 false _ A5.out).mono ?_); rintro e w' ⟨rfl, ⟨nd, rfl⟩⟩; refine ⟨_, rfl, ?_⟩) | ((with_reducible refine gate_dst (N := 14) rfl ?_); refine Kd.R_lit (Kd.int .i64) _ 3 ?hg (N := 14) ?hd (xs := ([0, 1] : List Int)) (inner := [.int .i64 0, .int .i64 1]) (ok := fun _ => True) (okp := fun _ => True) ?hr ?hp (fun _ hk => hk) trivial (Below.refl _ _) (Nat.le_refl _) (by simp) ?_; (case hd => rfl); (case hg => rfl); (case hr => first | (go_simp; done) | (go_simp; rfl)); (case hp => exact (Reps.one (show Kd.M (Kd.int .i64) _ _ _ 0 [.int .i64 0] from rfl) (Reps.one (show Kd.M (Kd.int .i64) _ _ _ 1 [.int .i64 1] from rfl) (Reps.none _ _)))); intro v180 w9 ho10 hb hg_ hnew_; clear hg_ hnew_; (first | rw [← Ny179.out] at ho10 | (simp only [Int.reduceToNat] at ho10; rw [← Ny179.out] at ho10)); have n0_ := Aside0.mk (Kd.R_lower ho10 (below_size (by repeat (first | (with_reducible first | exact HB.out | apply below_alloc | apply pw_below_drewN | apply below_drew1) | exact HB.out)))); have n1_ := Aside0.mk (below_step (by repeat (first | (with_reducible first | exact HB.out | apply below_alloc | apply pw_below_drewN | apply below_drew1) | exact HB.out)) hb); clear HB; have HO181 := n0_; have HB := n1_; clear n0_ n1_; clear hb ho10))
          go_ret
          exact ⟨_, by first | rfl | (simp [errW_none, errW_some] <;> rfl) | (simp [*, errW_none, errW_some] <;> rfl), by (with_reducible repeat (first | apply Kd.R_alloc | apply Kd.R_drewN | apply Kd.R_drew)); exact HO181.out, by repeat (first | (with_reducible first | exact HB.out | apply below_alloc | apply pw_below_drewN | apply below_drew1) | exact HB.out)⟩

end Go.Proofs.Ytjkgabmhhehhjaa.PSetsNames
