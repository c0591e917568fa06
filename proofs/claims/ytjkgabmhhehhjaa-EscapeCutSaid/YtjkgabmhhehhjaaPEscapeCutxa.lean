/- Begun as a text of print.sh, over a translation in which a function has a stand-in; what the stand-in changes is proved by hand. -/
import Derived.Test.YtjkgabmhhehhjaaPEscapeReadsx0
import Derived.Test.YtjkgabmhhehhjaaPEscapeReadsx2
import Derived.Test.YtjkgabmhhehhjaaPEscapeReadsx3
import Derived.Test.YtjkgabmhhehhjaaPEscapeReadsx4
import Derived.Test.YtjkgabmhhehhjaaPEscapeReadsx5
import Derived.Test.YtjkgabmhhehhjaaPEscapeReadsx6
namespace Go.Proofs.Ytjkgabmhhehhjaa.PEscapeCut
open Go.Proofs.Ytjkgabmhhehhjaa.PEscapeReads Go.RowKit Go.Proofs.YtjkgabmhhehhjaaW.PrintWords Go.Proofs.YtjkgabmhhehhjaaW.PrintLast Go.Proofs.YtjkgabmhhehhjaaW.PrintMore
attribute [local go_sem] max2_int min2_int max_two min_two max_three min_three max_four min_four   -- for this text's walks alone
set_option linter.unusedVariables false
set_option linter.unusedSimpArgs false

attribute [local go_sem high] eqA30
/-! ### a marked row ('[]byte(s)'): it is read as the string's bytes; its laws bear the names of the own row's -/
/-- A row that a conversion of a string has made. -/
def MR (e : Nat) (w : World) (base : Nat) (ok : Nat → Prop) (v : Value) (xs : List Int) : Prop :=
  ∃ (g c : Nat) (C : Array Value) (fr : Nat × Nat), v = .slice (some ⟨g, 0, none⟩) xs.length c ∧ xs.length ≤ c ∧ xs.length ≤ 9223372036854775807 ∧ w.heap[g]? = some (.cells C e fr) ∧ (∀ j, j < xs.length → C[j]? = some (.int .u8 (xs.getD j 0))) ∧ base ≤ g ∧ ok g
namespace MR
section
variable {e base : Nat} {ok ok' : Nat → Prop} {w w1 : World} {v u : Value} {xs : List Int}
theorem R_step (h : MR e w base ok v xs) (hm : ∀ k, ok k → k < w.heap.size → w1.heap[k]? = w.heap[k]?) : MR e w1 base ok v xs := by
  obtain ⟨g, c, C, fr, hv, hc, hl, hg, hx, hb, ho⟩ := h
  exact ⟨g, c, C, fr, hv, hc, hl, (hm g ho (blk_lt hg)).trans hg, hx, hb, ho⟩
theorem R_mono (h : MR e w base ok v xs) (hok : ∀ k, ok k → ok' k) : MR e w base ok' v xs := by
  obtain ⟨g, c, C, fr, hv, hc, hl, hg, hx, hb, ho⟩ := h
  exact ⟨g, c, C, fr, hv, hc, hl, hg, hx, hb, hok g ho⟩
theorem R_bound (h : MR e w base ok v xs) : MR e w base (fun k => ok k ∧ base ≤ k ∧ k < w.heap.size) v xs := by
  obtain ⟨g, c, C, fr, hv, hc, hl, hg, hx, hb, ho⟩ := h
  exact ⟨g, c, C, fr, hv, hc, hl, hg, hx, hb, ho, hb, blk_lt hg⟩
theorem R_below (h : MR e w base ok v xs) (hb : Below w.heap.size w w1) : MR e w1 base ok v xs := R_step h (fun k _ hk => hb.block k hk)
theorem R_far (h : MR e w base ok v xs) {p : Addr} (hok : ∀ k, ok k → k ≠ p.block) (x : Value) : MR e (w.setCell p x) base ok v xs := R_step h (fun k ho _ => Below.heap_setCell w p x k (hok k ho))
theorem R_types (h : MR e w base ok v xs) {g t : Nat} {cells : Array Value} (hb : w.heap[g]? = some (.cells cells t (0, 0))) (ht : ∀ q, q ∈ [e] → q ≠ t) : MR e w base (fun k => ok k ∧ k ≠ g) v xs := by
  obtain ⟨g', c, C, fr, hv, hc, hl, hg, hx, hbb, ho⟩ := h
  refine ⟨g', c, C, fr, hv, hc, hl, hg, hx, hbb, ho, ?_⟩
  rintro rfl
  rw [hg] at hb
  injection hb with hb
  injection hb with _ h2 _
  exact ht e (by simp) h2
theorem R_slice (h : MR e w base ok v xs) : ∃ A c, v = .slice A xs.length c := by
  obtain ⟨g, c, C, fr, hv, _⟩ := h
  exact ⟨_, _, hv⟩
theorem R_reads' {A : Option Addr} {n c : Nat} (h : MR e w base ok (.slice A n c) xs) : n = xs.length ∧ n ≤ c ∧ Kd.C (Kd.int .u8) w A xs.length xs := by
  obtain ⟨g, c', C, fr, hv, hc, hl, hg, hx, hb, ho⟩ := h
  injection hv with h1 h2 h3
  subst h1 h2 h3
  refine ⟨rfl, hc, Kd.C_of_reads (d := 0) (h1 := fun _ => rfl) ⟨rfl, hl, fun _ => ⟨_, rfl, fun j hj => ?_⟩⟩⟩
  rw [add_plain]
  unfold World.cell?
  simp only
  rw [hg]
  simp only [Option.isSome_none, Bool.false_eq_true, if_false]
  exact hx j hj
theorem R_lower {base' : Nat} (h : MR e w base ok v xs) (hb : base' ≤ base) : MR e w base' ok v xs := by
  obtain ⟨g, c, C, fr, hv, hc, hl, hg, hx, hbb, ho⟩ := h
  exact ⟨g, c, C, fr, hv, hc, hl, hg, hx, Nat.le_trans hb hbb, ho⟩
theorem R_own (h : MR e w base ok v xs) : ∀ k, v.ownBlock = some k → base ≤ k ∧ k < w.heap.size := by
  obtain ⟨g, c, C, fr, hv, hc, hl, hg, hx, hbb, ho⟩ := h
  intro k hk
  subst hv
  have : g = k := by simpa [Value.ownBlock] using hk
  subst this
  exact ⟨hbb, blk_lt hg⟩
theorem R_base (h : MR e w base ok v xs) : ∀ k, v.ownBlock = some k → base ≤ k := fun k hk => (R_own h k hk).1
theorem R_lt (h : MR e w base ok v xs) : ∀ k, v.ownBlock = some k → k < w.heap.size := fun k hk => (R_own h k hk).2
theorem R_alloc (h : MR e w base ok v xs) (o : Obj) : MR e (w.alloc o) base ok v xs := R_below h (below_alloc (Below.refl _ _) o)
theorem R_drew (h : MR e w base ok v xs) : MR e w.drew base ok v xs := R_below h (below_drew (Below.refl _ _))
theorem R_drewN (h : MR e w base ok v xs) (m : Nat) : MR e (w.drewN m) base ok v xs := R_below h (pw_below_drewN (Below.refl _ _) m)
theorem R_elder' (hu : MR e w base ok u xs) (hbase : ∀ k, v.ownBlock = some k → w.heap.size ≤ k) (hb : Below w.heap.size w w1) : MR e w1 base (fun k => ok k ∧ some k ≠ v.ownBlock) u xs :=
  R_below (R_mono (R_bound hu) (fun k hk => ⟨hk.1, fun he => by have := hbase k he.symm; have := hk.2.2; omega⟩)) hb
theorem R_elderB (h : MR e w base ok v xs) (a : Nat) (ha : w.heap.size ≤ a) : MR e w base (fun k => ok k ∧ k ≠ a) v xs := R_mono (R_bound h) (fun k hk => ⟨hk.1, by have := hk.2.2; omega⟩)
theorem R_new' (h : MR e w1 w.heap.size ok v xs) (hlt : ∀ k, u.ownBlock = some k → k < w.heap.size) : MR e w1 w.heap.size (fun k => ok k ∧ some k ≠ u.ownBlock) v xs :=
  R_mono (R_bound h) (fun k hk => ⟨hk.1, fun he => by have := hlt k he.symm; have := hk.2.1; omega⟩)
theorem R_newB {g : Nat} {o : Obj} (h : MR e w1 w.heap.size ok v xs) (hb : w.heap[g]? = some o) : MR e w1 w.heap.size (fun k => ok k ∧ k ≠ g) v xs := R_mono (R_bound h) (fun k hk => ⟨hk.1, by have := blk_lt hb; have := hk.2.1; omega⟩)
/-- The row behind '[]byte(s)'. -/
theorem made (W : World) (e : Nat) (s : ByteArray) (hs : s.size ≤ 9223372036854775807) {ok : Nat → Prop} (hok : ok W.heap.size) : MR e (Lib.bytesWorld W e s) W.heap.size ok (.slice (some ⟨W.heap.size, 0, none⟩) s.size (grownCap W s.size 0 e)) (bytesOf s) := by
  have hl : s.size = (bytesOf s).length := (bytesOf_length s).symm
  refine ⟨W.heap.size, grownCap W s.size 0 e, _, _, by rw [← hl], by rw [← hl]; exact grownCap_ge W s.size 0 e, by rw [← hl]; exact hs, Lib.bytesWorld_at_new W e s, fun j hj => ?_, Nat.le_refl _, hok⟩
  have h2 := Lib.bytesWorld_cell W e s j (by rw [hl]; exact hj)
  unfold World.cell? at h2
  simp only [Lib.bytesWorld_at_new W e s, Option.isSome_none, Bool.false_eq_true, if_false] at h2
  rw [h2]
  simp [bytesOf, List.getD_eq_getElem?_getD]
  cases s.data[j]? <;> simp
end
section
variable {P : Program} {ops : Array Oper} {rest : List Oper} {o : Oper} {a : Act} {Q : Exit → Act → World → Prop}
theorem lit {W : World} {ok : Nat → Prop} (s : ByteArray) (xs : List Int) (hx : xs = bytesOf s) (hs : s.size ≤ 9223372036854775807) (e : TypeId) (hgd : o.guard = none) {N : Tmp} (_hd : o.dst = some N)
    (hrun : (execOp a.eval o).run P W = .ok (.value (.slice (some ⟨W.heap.size, 0, none⟩) s.size (grownCap W s.size 0 e))) (Lib.bytesWorld W e s)) (hok : ok W.heap.size)
    (h : ∀ v1 w1, MR e w1 W.heap.size ok v1 xs → Below W.heap.size W w1 → True → True → wpList P ops Q rest (a.put o.dst v1) w1) : wpList P ops Q (o :: rest) a W := by
  subst hx
  exact Kd.event_run hgd hrun (h _ _ (made W e s hs hok) (bytes_below (Below.refl _ _) (Nat.le_refl _) e s) trivial trivial)
theorem lit_step {W : World} {ok : Nat → Prop} {Kc : Act → World → Prop} (s : ByteArray) (xs : List Int) (hx : xs = bytesOf s) (hs : s.size ≤ 9223372036854775807) (e : TypeId) (hw : Region.wanted o (yielded ops a.tmps) = true) {N : Tmp} (_hd : o.dst = some N)
    (hrun : (execOp a.eval o).run P W = .ok (.value (.slice (some ⟨W.heap.size, 0, none⟩) s.size (grownCap W s.size 0 e))) (Lib.bytesWorld W e s)) (hok : ok W.heap.size)
    (h : ∀ v1 w1, MR e w1 W.heap.size ok v1 xs → Below W.heap.size W w1 → True → True → Kc (a.put o.dst v1) w1) : if Region.wanted o (yielded ops a.tmps) = true then Oper.wp P o a W Kc Q else Kc (a.put o.dst undef) W := by
  subst hx
  exact event_step hw hrun (h _ _ (made W e s hs hok) (bytes_below (Below.refl _ _) (Nat.le_refl _) e s) trivial trivial)
end
end MR
/-! ### amanuensislaw14_EscapeCut: function 9 -/
def amanuensislaw14_EscapeCut.f (k : Nat) (a0 : Int) (a1 : Int) (a2_0 : Int) (a2_1 : Int) : Option (Bool) := (amanuensisref08_Escapes.f k).bind fun t171 => (if (t171.length : Int) = 0 then (none) else (if 0 ≤ (Int.tmod (wrap64 (a0)) (t171.length : Int)) then (if (Int.tmod (wrap64 (a0)) (t171.length : Int)) < (t171.length : Int) then (if (((rd_T38 t171 (Int.tmod (wrap64 (a0)) (t171.length : Int))).f0).size : Int) = 0 then (none) else (if (Int.tmod (wrap64 (a1)) (((rd_T38 t171 (Int.tmod (wrap64 (a0)) (t171.length : Int))).f0).size : Int)) = 0 then (if 0 ≤ 1 then (if 1 ≤ (((rd_T38 t171 (Int.tmod (wrap64 (a0)) (t171.length : Int))).f0).size : Int) then (if 1 + (((rd_T38 t171 (Int.tmod (wrap64 (a0)) (t171.length : Int))).f0).extract 0 1).size ≤ 9223372036854775807 then ((if ((⟨#[97]⟩ : ByteArray) ++ ((rd_T38 t171 (Int.tmod (wrap64 (a0)) (t171.length : Int))).f0).extract 0 1).size ≤ 9223372036854775807 then (escape_Next.f k (bytesOf ((⟨#[97]⟩ : ByteArray) ++ ((rd_T38 t171 (Int.tmod (wrap64 (a0)) (t171.length : Int))).f0).extract 0 1)) 1 a2_0 a2_1) else none).bind fun bt179 => ((if ((rd_T38 t171 (Int.tmod (wrap64 (a0)) (t171.length : Int))).f0).size ≤ 9223372036854775807 then (escape_Next.f k (bytesOf ((rd_T38 t171 (Int.tmod (wrap64 (a0)) (t171.length : Int))).f0)) 1 a2_0 a2_1) else none).bind fun bt189 => ((amanuensislaw14_answers.f k).bind fun t197 => (if t197 = true then (if bt179.2.2.1 = 0 then (if (bt179.2.2.2.1 == 5 && (bt179.2.2.2.2 == 1)) = true then (if bt189.2.2.1 = 0 then (some (bt189.2.2.2.1 == 1 && (bt189.2.2.2.2 == 1))) else (some false)) else (some false)) else (some false)) else (some false))))) else (none)) else (none)) else (none)) else (if 0 ≤ (Int.tmod (wrap64 (a1)) (((rd_T38 t171 (Int.tmod (wrap64 (a0)) (t171.length : Int))).f0).size : Int)) then (if (Int.tmod (wrap64 (a1)) (((rd_T38 t171 (Int.tmod (wrap64 (a0)) (t171.length : Int))).f0).size : Int)) ≤ (((rd_T38 t171 (Int.tmod (wrap64 (a0)) (t171.length : Int))).f0).size : Int) then (if 1 + (((rd_T38 t171 (Int.tmod (wrap64 (a0)) (t171.length : Int))).f0).extract 0 ((Int.tmod (wrap64 (a1)) (((rd_T38 t171 (Int.tmod (wrap64 (a0)) (t171.length : Int))).f0).size : Int)) : Int).toNat).size ≤ 9223372036854775807 then ((if ((⟨#[97]⟩ : ByteArray) ++ ((rd_T38 t171 (Int.tmod (wrap64 (a0)) (t171.length : Int))).f0).extract 0 ((Int.tmod (wrap64 (a1)) (((rd_T38 t171 (Int.tmod (wrap64 (a0)) (t171.length : Int))).f0).size : Int)) : Int).toNat).size ≤ 9223372036854775807 then (escape_Next.f k (bytesOf ((⟨#[97]⟩ : ByteArray) ++ ((rd_T38 t171 (Int.tmod (wrap64 (a0)) (t171.length : Int))).f0).extract 0 ((Int.tmod (wrap64 (a1)) (((rd_T38 t171 (Int.tmod (wrap64 (a0)) (t171.length : Int))).f0).size : Int)) : Int).toNat)) 1 a2_0 a2_1) else none).bind fun bt201 => ((if ((rd_T38 t171 (Int.tmod (wrap64 (a0)) (t171.length : Int))).f0).size ≤ 9223372036854775807 then (escape_Next.f k (bytesOf ((rd_T38 t171 (Int.tmod (wrap64 (a0)) (t171.length : Int))).f0)) 1 a2_0 a2_1) else none).bind fun bt211 => ((amanuensislaw14_answers.f k).bind fun t219 => (if t219 = true then (if bt201.2.2.1 = 0 then (if (bt201.2.2.2.1 == 5 && (bt201.2.2.2.2 == 1)) = true then (if bt211.2.2.1 = 0 then (some (bt211.2.2.2.1 == 1 && (bt211.2.2.2.2 == 1))) else (some false)) else (some false)) else (some false)) else (some false))))) else (none)) else (none)) else (none)))) else (none)) else (none)))
theorem amanuensislaw14_EscapeCut.mono : ∀ a0 a1 a2 a3 k, LeO (amanuensislaw14_EscapeCut.f k a0 a1 a2 a3) (amanuensislaw14_EscapeCut.f (k + 1) a0 a1 a2 a3) := by
  intro a0 a1 a2 a3 k
  unfold amanuensislaw14_EscapeCut.f
  repeat' first
      | (with_reducible exact amanuensislaw14_answers.mono _)
      | (with_reducible exact amanuensisref08_Escapes.mono _)
      | (with_reducible exact escape_Next.mono _ _ _ _ _)
      | (with_reducible exact LeO.refl _)
      | (with_reducible exact LeO.none _)
      | (with_reducible refine LeO.ite ?_ ?_)
      | (with_reducible refine LeO.bind ?_ (fun _ => ?_))
      | exact amanuensislaw14_answers.mono _
      | exact amanuensisref08_Escapes.mono _
      | exact escape_Next.mono _ _ _ _ _
      | exact LeO.none _
      | refine LeO.ite ?_ ?_
      | refine LeO.bind ?_ (fun _ => ?_)
def amanuensislaw14_EscapeCut.T6 : Bool × List (List Nat × List Nat) := (true, [([], []), ([0], [0]), ([], []), ([1, 2], [1, 2]), ([3], [3]), ([4], [4]), ([], []), ([5, 6], [5, 6]), ([7], [7]), ([8], [8]), ([8], [8]), ([8], [8]), ([], []), ([], []), ([12, 9, 7, 0, 1, 2, 3, 4, 5, 6, 7, 8, 9, 12, 13], [9, 12]), ([10, 14, 0, 1, 2, 3, 4, 5, 6, 7, 8, 9, 10, 12, 13, 14], [10]), ([13, 11, 15, 0, 1, 2, 3, 4, 5, 6, 7, 8, 9, 10, 11, 12, 13, 14, 15], [11, 13])])
def amanuensislaw14_EscapeCut.B6 : List Nat := [0, 1, 0, 7, 15, 31, 0, 127, 255, 511, 511, 511, 0, 0, 13311, 30719, 65535]
theorem amanuensislaw14_EscapeCut.tab6 : rtab .any (opsOf Try.f9 6) = amanuensislaw14_EscapeCut.T6 := by kernel_rfl
theorem amanuensislaw14_EscapeCut.bits6 : waitsOk amanuensislaw14_EscapeCut.T6.2 amanuensislaw14_EscapeCut.B6 = true := by kernel_rfl

end Go.Proofs.Ytjkgabmhhehhjaa.PEscapeCut
