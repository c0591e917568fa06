/- The law LeaderPrints and what it calls: begun as a text of print.sh, over a translation in which a function has a stand-in; what the stand-in changes is proved by hand. -/
import Derived.Test.YtopdomaogmmklaaPLeaderParsesx0
import Derived.Test.YtopdomaogmmklaaPLeaderParsesx2
import Derived.Test.YtopdomaogmmklaaPLeaderParsesx3
import Derived.Test.YtopdomaogmmklaaPLeaderParsesx4
namespace Go.Proofs.Ytopdomaogmmklaa.PLeaderPrints
open Go.Proofs.Ytopdomaogmmklaa.PLeaderParses Go.RowKit Go.Proofs.YtopdomaogmmklaaW.PrintWords Go.Proofs.YtopdomaogmmklaaW.PrintLast Go.Proofs.YtopdomaogmmklaaW.PrintMore
attribute [local go_sem] max2_int min2_int max_two min_two max_three min_three max_four min_four   -- for this text's walks alone
set_option linter.unusedVariables false
set_option linter.unusedSimpArgs false

/-! ### a marked row ('[]byte(s)'): it is read as the string's bytes; its laws bear the names of the own row's -/
/-- A row that a conversion of a string has made. -/
def MR (e : Nat) (w : World) (base : Nat) (ok : Nat → Prop) (v : Value) (xs : List Int) : Prop :=
  ∃ (g c : Nat) (C : Array Value) (fr : Nat × Nat), v = .slice (some ⟨g, 0, none⟩) xs.length c ∧ xs.length ≤ c ∧ xs.length ≤ 9223372036854775807 ∧ w.heap[g]? = some (.cells C e fr) ∧ (∀ j, j < xs.length → C[j]? = some (.int .u8 (xs.getD j 0))) ∧ base ≤ g ∧ ok g
namespace MR
section
variable {e base : Nat} {ok ok' : Nat → Prop} {w w1 : World} {v u : Value} {xs : List Int}
theorem R_step (h : MR e w base ok v xs) (hm : ∀ k, ok k → k < w.heap.size → w1.heap[k]? = w.heap[k]?) : MR e w1 base ok v xs := by
  obtain ⟨g, c, C, fr, hv, hc, hl, hg, hx, hb, ho⟩ := h
  exact ⟨g, c, C, fr, hv, hc, hl, (hm g ho (blk_lt hg)).trans hg, hx, hb, ho⟩
theorem R_mono (h : MR e w base ok v xs) (hok : ∀ k, ok k → ok' k) : MR e w base ok' v xs := by
  obtain ⟨g, c, C, fr, hv, hc, hl, hg, hx, hb, ho⟩ := h
  exact ⟨g, c, C, fr, hv, hc, hl, hg, hx, hb, hok g ho⟩
theorem R_bound (h : MR e w base ok v xs) : MR e w base (fun k => ok k ∧ base ≤ k ∧ k < w.heap.size) v xs := by
  obtain ⟨g, c, C, fr, hv, hc, hl, hg, hx, hb, ho⟩ := h
  exact ⟨g, c, C, fr, hv, hc, hl, hg, hx, hb, ho, hb, blk_lt hg⟩
theorem R_below (h : MR e w base ok v xs) (hb : Below w.heap.size w w1) : MR e w1 base ok v xs := R_step h (fun k _ hk => hb.block k hk)
theorem R_far (h : MR e w base ok v xs) {p : Addr} (hok : ∀ k, ok k → k ≠ p.block) (x : Value) : MR e (w.setCell p x) base ok v xs := R_step h (fun k ho _ => Below.heap_setCell w p x k (hok k ho))
theorem R_types (h : MR e w base ok v xs) {g t : Nat} {cells : Array Value} (hb : w.heap[g]? = some (.cells cells t (0, 0))) (ht : ∀ q, q ∈ [e] → q ≠ t) : MR e w base (fun k => ok k ∧ k ≠ g) v xs := by
  obtain ⟨g', c, C, fr, hv, hc, hl, hg, hx, hbb, ho⟩ := h
  refine ⟨g', c, C, fr, hv, hc, hl, hg, hx, hbb, ho, ?_⟩
  rintro rfl
  rw [hg] at hb
  injection hb with hb
  injection hb with _ h2 _
  exact ht e (by simp) h2
theorem R_slice (h : MR e w base ok v xs) : ∃ A c, v = .slice A xs.length c := by
  obtain ⟨g, c, C, fr, hv, _⟩ := h
  exact ⟨_, _, hv⟩
theorem R_reads' {A : Option Addr} {n c : Nat} (h : MR e w base ok (.slice A n c) xs) : n = xs.length ∧ n ≤ c ∧ Kd.C (Kd.int .u8) w A xs.length xs := by
  obtain ⟨g, c', C, fr, hv, hc, hl, hg, hx, hb, ho⟩ := h
  injection hv with h1 h2 h3
  subst h1 h2 h3
  refine ⟨rfl, hc, Kd.C_of_reads (d := 0) (h1 := fun _ => rfl) ⟨rfl, hl, fun _ => ⟨_, rfl, fun j hj => ?_⟩⟩⟩
  rw [add_plain]
  unfold World.cell?
  simp only
  rw [hg]
  simp only [Option.isSome_none, Bool.false_eq_true, if_false]
  exact hx j hj
theorem R_lower {base' : Nat} (h : MR e w base ok v xs) (hb : base' ≤ base) : MR e w base' ok v xs := by
  obtain ⟨g, c, C, fr, hv, hc, hl, hg, hx, hbb, ho⟩ := h
  exact ⟨g, c, C, fr, hv, hc, hl, hg, hx, Nat.le_trans hb hbb, ho⟩
theorem R_own (h : MR e w base ok v xs) : ∀ k, v.ownBlock = some k → base ≤ k ∧ k < w.heap.size := by
  obtain ⟨g, c, C, fr, hv, hc, hl, hg, hx, hbb, ho⟩ := h
  intro k hk
  subst hv
  have : g = k := by simpa [Value.ownBlock] using hk
  subst this
  exact ⟨hbb, blk_lt hg⟩
theorem R_base (h : MR e w base ok v xs) : ∀ k, v.ownBlock = some k → base ≤ k := fun k hk => (R_own h k hk).1
theorem R_lt (h : MR e w base ok v xs) : ∀ k, v.ownBlock = some k → k < w.heap.size := fun k hk => (R_own h k hk).2
theorem R_alloc (h : MR e w base ok v xs) (o : Obj) : MR e (w.alloc o) base ok v xs := R_below h (below_alloc (Below.refl _ _) o)
theorem R_drew (h : MR e w base ok v xs) : MR e w.drew base ok v xs := R_below h (below_drew (Below.refl _ _))
theorem R_drewN (h : MR e w base ok v xs) (m : Nat) : MR e (w.drewN m) base ok v xs := R_below h (pw_below_drewN (Below.refl _ _) m)
theorem R_elder' (hu : MR e w base ok u xs) (hbase : ∀ k, v.ownBlock = some k → w.heap.size ≤ k) (hb : Below w.heap.size w w1) : MR e w1 base (fun k => ok k ∧ some k ≠ v.ownBlock) u xs :=
  R_below (R_mono (R_bound hu) (fun k hk => ⟨hk.1, fun he => by have := hbase k he.symm; have := hk.2.2; omega⟩)) hb
theorem R_elderB (h : MR e w base ok v xs) (a : Nat) (ha : w.heap.size ≤ a) : MR e w base (fun k => ok k ∧ k ≠ a) v xs := R_mono (R_bound h) (fun k hk => ⟨hk.1, by have := hk.2.2; omega⟩)
theorem R_new' (h : MR e w1 w.heap.size ok v xs) (hlt : ∀ k, u.ownBlock = some k → k < w.heap.size) : MR e w1 w.heap.size (fun k => ok k ∧ some k ≠ u.ownBlock) v xs :=
  R_mono (R_bound h) (fun k hk => ⟨hk.1, fun he => by have := hlt k he.symm; have := hk.2.1; omega⟩)
theorem R_newB {g : Nat} {o : Obj} (h : MR e w1 w.heap.size ok v xs) (hb : w.heap[g]? = some o) : MR e w1 w.heap.size (fun k => ok k ∧ k ≠ g) v xs := R_mono (R_bound h) (fun k hk => ⟨hk.1, by have := blk_lt hb; have := hk.2.1; omega⟩)
/-- The row behind '[]byte(s)'. -/
theorem made (W : World) (e : Nat) (s : ByteArray) (hs : s.size ≤ 9223372036854775807) {ok : Nat → Prop} (hok : ok W.heap.size) : MR e (Lib.bytesWorld W e s) W.heap.size ok (.slice (some ⟨W.heap.size, 0, none⟩) s.size (grownCap W s.size 0 e)) (bytesOf s) := by
  have hl : s.size = (bytesOf s).length := (bytesOf_length s).symm
  refine ⟨W.heap.size, grownCap W s.size 0 e, _, _, by rw [← hl], by rw [← hl]; exact grownCap_ge W s.size 0 e, by rw [← hl]; exact hs, Lib.bytesWorld_at_new W e s, fun j hj => ?_, Nat.le_refl _, hok⟩
  have h2 := Lib.bytesWorld_cell W e s j (by rw [hl]; exact hj)
  unfold World.cell? at h2
  simp only [Lib.bytesWorld_at_new W e s, Option.isSome_none, Bool.false_eq_true, if_false] at h2
  rw [h2]
  simp [bytesOf, List.getD_eq_getElem?_getD]
  cases s.data[j]? <;> simp
end
section
variable {P : Program} {ops : Array Oper} {rest : List Oper} {o : Oper} {a : Act} {Q : Exit → Act → World → Prop}
theorem lit {W : World} {ok : Nat → Prop} (s : ByteArray) (xs : List Int) (hx : xs = bytesOf s) (hs : s.size ≤ 9223372036854775807) (e : TypeId) (hgd : o.guard = none) {N : Tmp} (_hd : o.dst = some N)
    (hrun : (execOp a.eval o).run P W = .ok (.value (.slice (some ⟨W.heap.size, 0, none⟩) s.size (grownCap W s.size 0 e))) (Lib.bytesWorld W e s)) (hok : ok W.heap.size)
    (h : ∀ v1 w1, MR e w1 W.heap.size ok v1 xs → Below W.heap.size W w1 → True → True → wpList P ops Q rest (a.put o.dst v1) w1) : wpList P ops Q (o :: rest) a W := by
  subst hx
  exact Kd.event_run hgd hrun (h _ _ (made W e s hs hok) (bytes_below (Below.refl _ _) (Nat.le_refl _) e s) trivial trivial)
theorem lit_step {W : World} {ok : Nat → Prop} {Kc : Act → World → Prop} (s : ByteArray) (xs : List Int) (hx : xs = bytesOf s) (hs : s.size ≤ 9223372036854775807) (e : TypeId) (hw : Region.wanted o (yielded ops a.tmps) = true) {N : Tmp} (_hd : o.dst = some N)
    (hrun : (execOp a.eval o).run P W = .ok (.value (.slice (some ⟨W.heap.size, 0, none⟩) s.size (grownCap W s.size 0 e))) (Lib.bytesWorld W e s)) (hok : ok W.heap.size)
    (h : ∀ v1 w1, MR e w1 W.heap.size ok v1 xs → Below W.heap.size W w1 → True → True → Kc (a.put o.dst v1) w1) : if Region.wanted o (yielded ops a.tmps) = true then Oper.wp P o a W Kc Q else Kc (a.put o.dst undef) W := by
  subst hx
  exact event_step hw hrun (h _ _ (made W e s hs hok) (bytes_below (Below.refl _ _) (Nat.le_refl _) e s) trivial trivial)
end
end MR
/-! ### a row that is nil, or a marked one that is not empty; its laws bear the names of the own row's -/
/-- Nil, or a row that a conversion of a string that is not empty has made. -/
def NR (e : Nat) (w : World) (base : Nat) (ok : Nat → Prop) (v : Value) (xs : List Int) : Prop :=
  (v = .slice none 0 0 ∧ xs = []) ∨ (MR e w base ok v xs ∧ xs ≠ [])
namespace NR
section
variable {e base : Nat} {ok ok' : Nat → Prop} {w w1 : World} {v u : Value} {xs : List Int}
theorem R_nil (e : Nat) (w : World) (base : Nat) (ok : Nat → Prop) : NR e w base ok (.slice none 0 0) [] := Or.inl ⟨rfl, rfl⟩
theorem of_mark (h : MR e w base ok v xs) (hx : xs ≠ []) : NR e w base ok v xs := Or.inr ⟨h, hx⟩
theorem R_step (h : NR e w base ok v xs) (hm : ∀ k, ok k → k < w.heap.size → w1.heap[k]? = w.heap[k]?) : NR e w1 base ok v xs := h.imp id fun h => ⟨MR.R_step h.1 hm, h.2⟩
theorem R_mono (h : NR e w base ok v xs) (hok : ∀ k, ok k → ok' k) : NR e w base ok' v xs := h.imp id fun h => ⟨MR.R_mono h.1 hok, h.2⟩
theorem R_bound (h : NR e w base ok v xs) : NR e w base (fun k => ok k ∧ base ≤ k ∧ k < w.heap.size) v xs := h.imp id fun h => ⟨MR.R_bound h.1, h.2⟩
theorem R_below (h : NR e w base ok v xs) (hb : Below w.heap.size w w1) : NR e w1 base ok v xs := h.imp id fun h => ⟨MR.R_below h.1 hb, h.2⟩
theorem R_far (h : NR e w base ok v xs) {p : Addr} (hok : ∀ k, ok k → k ≠ p.block) (x : Value) : NR e (w.setCell p x) base ok v xs := h.imp id fun h => ⟨MR.R_far h.1 hok x, h.2⟩
theorem R_types (h : NR e w base ok v xs) {g t : Nat} {cells : Array Value} (hb : w.heap[g]? = some (.cells cells t (0, 0))) (ht : ∀ q, q ∈ [e] → q ≠ t) : NR e w base (fun k => ok k ∧ k ≠ g) v xs := h.imp id fun h => ⟨MR.R_types h.1 hb ht, h.2⟩
theorem R_slice (h : NR e w base ok v xs) : ∃ A c, v = .slice A xs.length c := by
  rcases h with ⟨hv, hx⟩ | ⟨h, _⟩
  · subst hv hx
    exact ⟨none, 0, rfl⟩
  · exact MR.R_slice h
theorem R_reads' {A : Option Addr} {n c : Nat} (h : NR e w base ok (.slice A n c) xs) : n = xs.length ∧ n ≤ c ∧ Kd.C (Kd.int .u8) w A xs.length xs := by
  rcases h with ⟨hv, hx⟩ | ⟨h, _⟩
  · injection hv with h1 h2 h3
    subst h1 h2 h3 hx
    exact ⟨rfl, Nat.le_refl _, Kd.C_of_reads (d := 0) (h1 := fun _ => rfl) ⟨rfl, by simp, fun hp => absurd hp (by simp)⟩⟩
  · exact MR.R_reads' h
theorem nil_of (h : NR e w base ok v xs) (hx : ((xs.length : Int) == 0) = true) : v = .slice none 0 0 ∧ xs = [] := by
  rcases h with h | ⟨_, h⟩
  · exact h
  · simp at hx
    exact absurd hx h
theorem some_of (h : NR e w base ok v xs) (hx : ((xs.length : Int) == 0) = false) : ∃ a c, v = .slice (some a) xs.length c := by
  rcases h with ⟨_, h⟩ | ⟨h, _⟩
  · subst h
    simp at hx
  · obtain ⟨g, c, C, fr, hv, _⟩ := h
    exact ⟨_, _, hv⟩
theorem R_lower {base' : Nat} (h : NR e w base ok v xs) (hb : base' ≤ base) : NR e w base' ok v xs := h.imp id fun h => ⟨MR.R_lower h.1 hb, h.2⟩
theorem R_own (h : NR e w base ok v xs) : ∀ k, v.ownBlock = some k → base ≤ k ∧ k < w.heap.size := by
  rcases h with ⟨hv, hx⟩ | ⟨h, _⟩
  · subst hv
    intro k hk
    simp [Value.ownBlock] at hk
  · exact MR.R_own h
theorem R_base (h : NR e w base ok v xs) : ∀ k, v.ownBlock = some k → base ≤ k := fun k hk => (R_own h k hk).1
theorem R_lt (h : NR e w base ok v xs) : ∀ k, v.ownBlock = some k → k < w.heap.size := fun k hk => (R_own h k hk).2
theorem R_alloc (h : NR e w base ok v xs) (o : Obj) : NR e (w.alloc o) base ok v xs := R_below h (below_alloc (Below.refl _ _) o)
theorem R_drew (h : NR e w base ok v xs) : NR e w.drew base ok v xs := R_below h (below_drew (Below.refl _ _))
theorem R_drewN (h : NR e w base ok v xs) (m : Nat) : NR e (w.drewN m) base ok v xs := R_below h (pw_below_drewN (Below.refl _ _) m)
theorem R_elder' (hu : NR e w base ok u xs) (hbase : ∀ k, v.ownBlock = some k → w.heap.size ≤ k) (hb : Below w.heap.size w w1) : NR e w1 base (fun k => ok k ∧ some k ≠ v.ownBlock) u xs :=
  R_below (R_mono (R_bound hu) (fun k hk => ⟨hk.1, fun he => by have := hbase k he.symm; have := hk.2.2; omega⟩)) hb
theorem R_elderB (h : NR e w base ok v xs) (a : Nat) (ha : w.heap.size ≤ a) : NR e w base (fun k => ok k ∧ k ≠ a) v xs := R_mono (R_bound h) (fun k hk => ⟨hk.1, by have := hk.2.2; omega⟩)
theorem R_new' (h : NR e w1 w.heap.size ok v xs) (hlt : ∀ k, u.ownBlock = some k → k < w.heap.size) : NR e w1 w.heap.size (fun k => ok k ∧ some k ≠ u.ownBlock) v xs :=
  R_mono (R_bound h) (fun k hk => ⟨hk.1, fun he => by have := hlt k he.symm; have := hk.2.1; omega⟩)
theorem R_newB {g : Nat} {o : Obj} (h : NR e w1 w.heap.size ok v xs) (hb : w.heap[g]? = some o) : NR e w1 w.heap.size (fun k => ok k ∧ k ≠ g) v xs := R_mono (R_bound h) (fun k hk => ⟨hk.1, by have := blk_lt hb; have := hk.2.1; omega⟩)
end
end NR

namespace MR
section
variable {e base : Nat} {ok ok' : Nat → Prop} {w w1 : World} {v u v1 : Value} {xs : List Int}
theorem R_grown (h : MR e w base ok v xs) {row : Option Nat} (hg : w.grownBy w1 row) (hok : ∀ k, ok k → some k ≠ row) : MR e w1 base ok v xs := R_step h (fun k ho hk => hg.block k hk (hok k ho))
theorem R_keep (h : MR e w base ok v xs) {g : Nat} (hk : KeepBut w w1 g none) (hok : ∀ k, ok k → k ≠ g) : MR e w1 base ok v xs := R_step h (fun k ho hlt => hk.2 k hlt (hok k ho) (by simp))
theorem R_set (h : MR e w base ok v xs) {g t : Nat} {cells : Array Value} (hb : w.heap[g]? = some (.cells cells t (0, 0))) (ht : ∀ q, q ∈ [e] → q ≠ t) (j : Nat) (u : Value) : MR e (w.setCell ⟨g, j, none⟩ u) base ok v xs :=
  R_mono (R_far (p := ⟨g, j, none⟩) (R_types h hb ht) (fun _ hk => hk.2) u) (fun _ hk => hk.1)
theorem R_after (h : MR e w base (fun k => ok k ∧ some k ≠ v.ownBlock) u xs) (hg : w.grownBy w1 v.ownBlock) (hat : v1.ownBlock = v.ownBlock ∨ ∃ b, v1.ownBlock = some b ∧ w.heap.size ≤ b) : MR e w1 base (fun k => ok k ∧ some k ≠ v1.ownBlock) u xs := by
  have h2 : MR e w base (fun k => (ok k ∧ some k ≠ v.ownBlock) ∧ base ≤ k ∧ k < w.heap.size) u xs := R_bound h
  refine R_mono (R_step h2 (fun k hk hlt => hg.block k hlt hk.1.2)) (fun k hk => ⟨hk.1.1, ?_⟩)
  rcases hat with hat | ⟨b, hb, hle⟩
  · rw [hat]; exact hk.1.2
  · rw [hb]
    intro he
    injection he with he
    have := hk.2.2
    omega
theorem R_at {m : Nat} (hq : w.drewN m = w1) (h : MR e w base ok v xs) : MR e w1 base ok v xs := by subst hq; exact R_drewN h m
theorem R_apart_nil (h : MR e w base ok u xs) : MR e w base (fun k => ok k ∧ some k ≠ (Value.slice none 0 0).ownBlock) u xs := R_mono h (fun k hk => ⟨hk, by simp [Value.ownBlock]⟩)
theorem R_drop (h : MR e w base (fun k => ok k ∧ ok' k) u xs) : MR e w base ok u xs := R_mono h (fun _ hk => hk.1)
end
end MR
namespace NR
section
variable {e base : Nat} {ok ok' : Nat → Prop} {w w1 : World} {v u v1 : Value} {xs : List Int}
theorem R_grown (h : NR e w base ok v xs) {row : Option Nat} (hg : w.grownBy w1 row) (hok : ∀ k, ok k → some k ≠ row) : NR e w1 base ok v xs := R_step h (fun k ho hk => hg.block k hk (hok k ho))
theorem R_keep (h : NR e w base ok v xs) {g : Nat} (hk : KeepBut w w1 g none) (hok : ∀ k, ok k → k ≠ g) : NR e w1 base ok v xs := R_step h (fun k ho hlt => hk.2 k hlt (hok k ho) (by simp))
theorem R_set (h : NR e w base ok v xs) {g t : Nat} {cells : Array Value} (hb : w.heap[g]? = some (.cells cells t (0, 0))) (ht : ∀ q, q ∈ [e] → q ≠ t) (j : Nat) (u : Value) : NR e (w.setCell ⟨g, j, none⟩ u) base ok v xs :=
  R_mono (R_far (p := ⟨g, j, none⟩) (R_types h hb ht) (fun _ hk => hk.2) u) (fun _ hk => hk.1)
theorem R_after (h : NR e w base (fun k => ok k ∧ some k ≠ v.ownBlock) u xs) (hg : w.grownBy w1 v.ownBlock) (hat : v1.ownBlock = v.ownBlock ∨ ∃ b, v1.ownBlock = some b ∧ w.heap.size ≤ b) : NR e w1 base (fun k => ok k ∧ some k ≠ v1.ownBlock) u xs := by
  have h2 : NR e w base (fun k => (ok k ∧ some k ≠ v.ownBlock) ∧ base ≤ k ∧ k < w.heap.size) u xs := R_bound h
  refine R_mono (R_step h2 (fun k hk hlt => hg.block k hlt hk.1.2)) (fun k hk => ⟨hk.1.1, ?_⟩)
  rcases hat with hat | ⟨b, hb, hle⟩
  · rw [hat]; exact hk.1.2
  · rw [hb]
    intro he
    injection he with he
    have := hk.2.2
    omega
theorem R_at {m : Nat} (hq : w.drewN m = w1) (h : NR e w base ok v xs) : NR e w1 base ok v xs := by subst hq; exact R_drewN h m
theorem R_apart_nil (h : NR e w base ok u xs) : NR e w base (fun k => ok k ∧ some k ≠ (Value.slice none 0 0).ownBlock) u xs := R_mono h (fun k hk => ⟨hk, by simp [Value.ownBlock]⟩)
theorem R_drop (h : NR e w base (fun k => ok k ∧ ok' k) u xs) : NR e w base ok u xs := R_mono h (fun _ hk => hk.1)
end
end NR
theorem ne_of_size {s : ByteArray} (h : 0 < s.size) : bytesOf s ≠ [] := by
  intro he
  have := bytesOf_length s
  rw [he] at this
  simp at this
  omega

/-! ### leader_Five: function 21 -/
def leader_Five.l0 : Nat → Int → List Int → Int → Option (ByteArray)
  | 0, _, _, _ => none
  | k + 1, x0, x3, x4 => if x4 ≥ 0 then (if 0 ≤ x4 then (if x4 < (x3.length : Int) then (leader_Five.l0 k (wrap64 (Int.tdiv x0 10)) (x3.set (x4 : Int).toNat ((wrap64 (48 + (Int.tmod x0 10))) % 256)) (wrap64 (x4 - 1))) else (none)) else (none)) else (some (strOfNums x3))
def leader_Five.f (k : Nat) (a0 : Int) : Option (ByteArray) := if 5 ≤ 281474976710656 then (leader_Five.l0 k a0 (List.replicate 5 0) 4) else (none)
theorem leader_Five.mono_l : ∀ k, (∀ y0 y1 y2, LeO (leader_Five.l0 k y0 y1 y2) (leader_Five.l0 (k + 1) y0 y1 y2))
  | 0 => fun _ _ _ r h => by simp [leader_Five.l0] at h
  | k + 1 => by
    have ih0 := leader_Five.mono_l k
    · intro y0 y1 y2
      unfold leader_Five.l0
      repeat' first
      | (with_reducible exact ih0 _ _ _)
      | (with_reducible exact LeO.refl _)
      | (with_reducible exact LeO.none _)
      | (with_reducible refine LeO.ite ?_ ?_)
      | (with_reducible refine LeO.bind ?_ (fun _ => ?_))
      | exact ih0 _ _ _
      | exact LeO.none _
      | refine LeO.ite ?_ ?_
      | refine LeO.bind ?_ (fun _ => ?_)
theorem leader_Five.mono : ∀ a0 k, LeO (leader_Five.f k a0) (leader_Five.f (k + 1) a0) := by
  intro a0 k
  have ih0 := leader_Five.mono_l k
  unfold leader_Five.f
  repeat' first
      | (with_reducible exact ih0 _ _ _)
      | (with_reducible exact LeO.refl _)
      | (with_reducible exact LeO.none _)
      | (with_reducible refine LeO.ite ?_ ?_)
      | (with_reducible refine LeO.bind ?_ (fun _ => ?_))
      | exact ih0 _ _ _
      | exact LeO.none _
      | refine LeO.ite ?_ ?_
      | refine LeO.bind ?_ (fun _ => ?_)
set_option maxHeartbeats 8000000 in
set_option maxRecDepth 100000 in
theorem leader_Five.calls (k : Nat) (a0 : Int) (r : ByteArray) (w : World) (h : leader_Five.f k a0 = some r) :
    Calls Try.prog 21 #[.int .i64 a0] w fun e w' => e = .returned (.string r) ∧ Below w.heap.size w w' := by
  have HB := Aside0.mk (Below.refl w.heap.size w)
  have H : (if 5 ≤ 281474976710656 then (leader_Five.l0 k a0 (List.replicate 5 0) 4) else (none)) = some r := h
  clear h
  by_cases c2 : 5 ≤ 281474976710656
  · rw [if_pos c2] at H
    have c2b0 := eq_true c2
    have c2b1 : decide (5 ≤ 281474976710656) = true := decide_eq_true c2
    clear c2
    obtain ⟨y125, hy125⟩ : ∃ y_ : List Int, y_ = (List.replicate 5 0) := ⟨_, rfl⟩
    replace H : (leader_Five.l0 k a0 y125 4) = some r := by first | (rw [hy125]; with_reducible exact H) | (have H2_ := (Option.bind_some _ _).symm.trans H; rw [hy125]; with_reducible exact H2_) | (have H2_ := (Option.bind_some _ _).symm.trans H; with_reducible exact H2_) | with_reducible exact H | (rw [hy125]; exact H) | exact H
    have Ny125 := Aside0.mk hy125
    clear hy125
    have H' := Aside0.mk H
    clear H
    go_enter Try.func21, Try.ntmps21
    go_wp2_with (first | ((with_reducible refine gate_dst (N := 5) rfl ?_); refine Kd.R_make (Kd.int .u8) _ 5 rfl (N := 5) rfl 22 _ _ rfl 5 rfl rfl Try.underlying22 (.int .u8 0) 1 info5 rfl (by decide) (by omega) 0 (ok := fun _ => True) (okp := fun _ => True) rfl (fun _ hk => hk) trivial (by omega) (by omega) (Below.refl _ _) (Nat.le_refl _) ?_; intro v126 w3 ho4 hb hg_ hnew_; clear hg_ hnew_; (first | rw [← Ny125.out] at ho4 | (simp only [Int.reduceToNat] at ho4; rw [← Ny125.out] at ho4)); have n0_ := Aside0.mk (Kd.R_lower ho4 (below_size (by repeat (first | (with_reducible first | exact HB.out | apply below_alloc | apply pw_below_drewN | apply below_drew1) | exact HB.out)))); have n1_ := Aside0.mk (below_step (by repeat (first | (with_reducible first | exact HB.out | apply below_alloc | apply pw_below_drewN | apply below_drew1) | exact HB.out)) hb); clear HB; have HO127 := n0_; have HB := n1_; clear n0_ n1_; clear hb ho4))
    go_loopg [0, 4] k (fun kq v0 v4 w' => ∃ (x0_1 : Int) (x3_1 : List Int) (x4_1 : Int), v0 = .int .i64 x0_1 ∧ v4 = .int .i64 x4_1 ∧ Aside0 (leader_Five.l0 kq x0_1 x3_1 x4_1 = some r) ∧ Aside0 (kq ≤ k) ∧ Aside0 (Kd.R (Kd.int .u8) 5 w' w.heap.size (fun _ => True) v126 x3_1) ∧ Aside0 (Below w.heap.size w w'))
    case atStart => exact ⟨(a0), (y125), (4), (by first | rfl | (simp; done) | (simp [*]; done)), (by first | rfl | (simp; done) | (simp [*]; done)), H', ⟨Nat.le_refl _⟩, ⟨by (with_reducible repeat (first | apply Kd.R_alloc | apply Kd.R_drewN | apply Kd.R_drew)); exact HO127.out⟩, ⟨by repeat (first | (with_reducible first | exact HB.out | apply below_alloc | apply pw_below_drewN | apply below_drew1) | exact HB.out)⟩⟩
    case round =>
      clear H'
      try clear c2
      try clear c2b0
      try clear c2b1
      try clear p2
      obtain ⟨x0_1, x3_1, x4_1, rfl, rfl, HA, HK1, HO_3, HB⟩ := hrel
      cases gk with
      | zero => exact absurd HA.out (by simp [leader_Five.l0])
      | succ k1 =>
        have H := HA.out
        clear HA
        simp only [leader_Five.l0] at H
        by_cases c5 : x4_1 ≥ 0
        · rw [if_pos c5] at H
          have c5b0 : decide (0 ≤ x4_1) = true := decide_eq_true c5
          clear c5
          by_cases c6 : 0 ≤ x4_1
          · rw [if_pos c6] at H
            have c6b0 : decide (0 ≤ x4_1) = true := decide_eq_true c6
            clear c6
            by_cases c7 : x4_1 < (x3_1.length : Int)
            · rw [if_pos c7] at H
              have c7b0 : decide (x4_1 < (x3_1.length : Int)) = true := decide_eq_true c7
              clear c7
              obtain ⟨y128, hy128⟩ : ∃ y_ : List Int, y_ = (x3_1.set (x4_1 : Int).toNat ((wrap64 (48 + (Int.tmod x0_1 10))) % 256)) := ⟨_, rfl⟩
              replace H : (leader_Five.l0 k1 (wrap64 (Int.tdiv x0_1 10)) y128 (wrap64 (x4_1 - 1))) = some r := by first | (rw [hy128]; with_reducible exact H) | (have H2_ := (Option.bind_some _ _).symm.trans H; rw [hy128]; with_reducible exact H2_) | (have H2_ := (Option.bind_some _ _).symm.trans H; with_reducible exact H2_) | with_reducible exact H | (rw [hy128]; exact H) | exact H
              have Ny128 := Aside0.mk hy128
              clear hy128
              have H' := Aside0.mk H
              clear H
              have p8 : 0 ≤ (x4_1 : Int) := of_decide_eq_true (by first | (with_reducible assumption) | assumption)
              have q8 : (x4_1 : Int) < ((x3_1.length : Int) : Int) := of_decide_eq_true (by first | (with_reducible assumption) | assumption)
              obtain ⟨go8, co8, eo8, gb8, gl8, cl8, HG8⟩ := Kd.R_form HO_3.out (by omega)
              (first | cases eo8 | (injection eo8 with ea_ en_ ec_; (first | subst ea_ | (injection ea_ with ea_; subst ea_)); subst ec_; clear en_))
              have GB8 := Aside0.mk gb8
              have GG8 := Aside0.mk HG8
              clear gb8 gl8 HG8
              obtain ⟨hx8_0, hf8_0⟩ := Kd.R_celln 0 HO_3.out (x4_1 : Int) p8 q8
              replace p8 := eq_true p8
              replace q8 := eq_true q8
              have HP9 := Kd.R_putg HO_3.out (x4_1 : Int) ((wrap64 (48 + (Int.tmod x0_1 10))) % 256)
              go_wp2_with (first | ((with_reducible refine gate_store (t := 5) (p := 16) rfl ?_); refine store_event (t := 5) (p := 16) (v := ?vo_w10) (w1 := (wr.setCell ⟨go8, (x4_1 : Int).toNat, none⟩ (.int .u8 ((wrap64 (48 + (Int.tmod x0_1 10))) % 256)))) ?hg ?ho ?hn ?hr ?_; (case ho => rfl); (case hg => rfl); (case hn => rfl); (case hr => first | (go_simp; done) | (go_simp; rfl)); intro w10 hw; have hg : wr.grownBy w10 (some go8) := (by rw [hw]; exact HP9.2); have hp_ : Kd.R (Kd.int .u8) 5 w10 w.heap.size (fun _ => True) (.slice (some ⟨go8, 0, none⟩) x3_1.length co8) y128 := (by rw [hw, Ny128.out]; exact HP9.1); clear HP9; have n0_ := Aside0.mk (hp_); have n1_ := Aside0.mk ((by rw [hw]; exact below_set (HB.out) GB8.out : Below w.heap.size w w10)); clear HO_3; clear HB; have HO_3 := n0_; have HB := n1_; clear n0_ n1_; clear hg hw hp_))
              go_roundg k1
              case measure => have := HK1.out; omega
              case rel => exact ⟨(wrap64 (Int.tdiv x0_1 10)), (y128), (wrap64 (x4_1 - 1)), (by first | rfl | (simp; done) | (simp [*]; done)), (by first | rfl | (simp; done) | (simp [*]; done)), H', ⟨by have := HK1.out; omega⟩, ⟨by (with_reducible repeat (first | apply Kd.R_alloc | apply Kd.R_drewN | apply Kd.R_drew)); exact HO_3.out⟩, ⟨by repeat (first | (with_reducible first | exact HB.out | apply below_alloc | apply pw_below_drewN | apply below_drew1) | exact HB.out)⟩⟩
            · rw [if_neg c7] at H
              exact absurd H (by simp)
          · rw [if_neg c6] at H
            exact absurd H (by simp)
        · rw [if_neg c5] at H
          have c5b0 : decide (0 ≤ x4_1) = false := decide_eq_false c5
          clear c5
          obtain rfl := Option.some.inj H
          have hcv11 := own_string (P := Try.prog) Try.underlying22 Try.underlying5 Try.underlying9 (Kd.own_of_R HO_3.out)
          go_wp2
          go_ret
          exact ⟨by first | rfl | (simp [errW_none, errW_some] <;> rfl) | (simp [*, errW_none, errW_some] <;> rfl), by repeat (first | (with_reducible first | exact HB.out | apply below_alloc | apply pw_below_drewN | apply below_drew1) | exact HB.out)⟩
  · rw [if_neg c2] at H
    exact absurd H (by simp)

/-! ### leader_Print: function 16 -/
def leader_Print.j0 : Nat → ByteArray → Int → Int → Bool → Option (List Int × Bool)
  | 0, _, _, _, _ => none
  | k + 1, x0, x1, x2, x26 => if x26 = true then (some (([] : List Int), false)) else ((leader_Five.f k x1).bind fun t130 => (if 5 ≤ 12 then (if 12 ≤ (x0.size : Int) then (if t130.size + (x0.extract 5 12).size ≤ 9223372036854775807 then ((leader_Five.f k x2).bind fun t131 => (if (t130 ++ (x0.extract 5 12)).size + t131.size ≤ 9223372036854775807 then (if 17 ≤ (x0.size : Int) then (if ((t130 ++ (x0.extract 5 12)) ++ t131).size + (x0.extract 17 x0.size).size ≤ 9223372036854775807 then (if 0 < (((t130 ++ (x0.extract 5 12)) ++ t131) ++ (x0.extract 17 x0.size)).size then (if (((t130 ++ (x0.extract 5 12)) ++ t131) ++ (x0.extract 17 x0.size)).size ≤ 9223372036854775807 then (some ((bytesOf (((t130 ++ (x0.extract 5 12)) ++ t131) ++ (x0.extract 17 x0.size))), true)) else (none)) else (none)) else (none)) else (none)) else (none))) else (none)) else (none)) else (none)))
def leader_Print.f (k : Nat) (a0 : ByteArray) (a1 : Int) (a2 : Int) : Option (List Int × Bool) := (leader_Sound.f k a0).bind fun t129 => (if t129 = true then (if a1 < 0 then (leader_Print.j0 k a0 a1 a2 true) else (if a1 > 99999 then (leader_Print.j0 k a0 a1 a2 true) else (if a2 < 0 then (leader_Print.j0 k a0 a1 a2 true) else (leader_Print.j0 k a0 a1 a2 (decide (a2 > 99999)))))) else (leader_Print.j0 k a0 a1 a2 true))
theorem leader_Print.mono_l : ∀ k, (∀ y0 y1 y2 y3, LeO (leader_Print.j0 k y0 y1 y2 y3) (leader_Print.j0 (k + 1) y0 y1 y2 y3))
  | 0 => fun _ _ _ _ r h => by simp [leader_Print.j0] at h
  | k + 1 => by
    have ih0 := leader_Print.mono_l k
    · intro y0 y1 y2 y3
      unfold leader_Print.j0
      repeat' first
      | (with_reducible exact ih0 _ _ _ _)
      | (with_reducible exact leader_Five.mono _ _)
      | (with_reducible exact leader_Sound.mono _ _)
      | (with_reducible exact LeO.refl _)
      | (with_reducible exact LeO.none _)
      | (with_reducible refine LeO.ite ?_ ?_)
      | (with_reducible refine LeO.bind ?_ (fun _ => ?_))
      | exact ih0 _ _ _ _
      | exact leader_Five.mono _ _
      | exact leader_Sound.mono _ _
      | exact LeO.none _
      | refine LeO.ite ?_ ?_
      | refine LeO.bind ?_ (fun _ => ?_)
theorem leader_Print.mono : ∀ a0 a1 a2 k, LeO (leader_Print.f k a0 a1 a2) (leader_Print.f (k + 1) a0 a1 a2) := by
  intro a0 a1 a2 k
  have ih0 := leader_Print.mono_l k
  unfold leader_Print.f
  repeat' first
      | (with_reducible exact ih0 _ _ _ _)
      | (with_reducible exact leader_Five.mono _ _)
      | (with_reducible exact leader_Sound.mono _ _)
      | (with_reducible exact LeO.refl _)
      | (with_reducible exact LeO.none _)
      | (with_reducible refine LeO.ite ?_ ?_)
      | (with_reducible refine LeO.bind ?_ (fun _ => ?_))
      | exact ih0 _ _ _ _
      | exact leader_Five.mono _ _
      | exact leader_Sound.mono _ _
      | exact LeO.none _
      | refine LeO.ite ?_ ?_
      | refine LeO.bind ?_ (fun _ => ?_)
def leader_Print.T3 : Bool × List (List Nat × List Nat) := (true, [([], []), ([0], [0]), ([], []), ([2], [2]), ([1, 3], [1, 3]), ([], []), ([5, 1], [5]), ([4, 6], [4, 6]), ([], []), ([8], [8]), ([7, 9], [7, 9]), ([10], [10]), ([11, 6, 0, 1, 2, 3, 4, 5, 6, 7, 8, 9, 10, 11], [11]), ([12, 0, 1, 2, 3, 4, 5, 6, 7, 8, 9, 10, 11, 12], [])])
def leader_Print.B3 : List Nat := [0, 1, 0, 4, 15, 0, 35, 127, 0, 256, 1023, 2047, 4095, 8191]
theorem leader_Print.tab3 : rtab .any (opsOf Try.f16 3) = leader_Print.T3 := by kernel_rfl
theorem leader_Print.bits3 : waitsOk leader_Print.T3.2 leader_Print.B3 = true := by kernel_rfl
set_option maxHeartbeats 8000000 in
set_option maxRecDepth 100000 in
theorem leader_Print.calls (k : Nat) (a0 : ByteArray) (a1 : Int) (a2 : Int) (r1 : List Int) (r2 : Bool) (w : World) (h : leader_Print.f k a0 a1 a2 = some (r1, r2)) :
    Calls Try.prog 16 #[.string a0, .int .i64 a1, .int .i64 a2] w fun e w' => ∃ v0_ : Value, e = .returned (.tuple #[v0_, .bool r2]) ∧ NR 5 w' w.heap.size (fun _ => True) v0_ r1 ∧ Below w.heap.size w w' := by
  have HB := Aside0.mk (Below.refl w.heap.size w)
  have H : ((leader_Sound.f k a0).bind fun t129 => (if t129 = true then (if a1 < 0 then (leader_Print.j0 k a0 a1 a2 true) else (if a1 > 99999 then (leader_Print.j0 k a0 a1 a2 true) else (if a2 < 0 then (leader_Print.j0 k a0 a1 a2 true) else (leader_Print.j0 k a0 a1 a2 (decide (a2 > 99999)))))) else (leader_Print.j0 k a0 a1 a2 true))) = some (r1, r2) := h
  clear h
  have HC4 := Aside0.mk H
  clear H
  have kb := fun (s : ByteArray) (W : World) => print_bytes (P := Try.prog) 9 22 5 Try.underlying9 Try.underlying22 Try.underlying5 s W
  go_enter Try.func16, Try.ntmps16
  go_upto_region 1 with (fail)
  go_cut [26] (fun v26 wc => ∃ (kq : Nat) (x26_3 : Bool), v26 = .bool x26_3 ∧ Aside0 (leader_Print.j0 kq a0 a1 a2 x26_3 = some (r1, r2)) ∧ Aside0 (kq ≤ k) ∧ Aside0 (Below w.heap.size w wc))
  case first =>
    have H := HC4.out
    clear HC4
    replace H := Option.bind_eq_some_iff.mp H
    obtain ⟨t129, A50, H⟩ := H
    replace H : (if t129 = true then (if a1 < 0 then (leader_Print.j0 k a0 a1 a2 true) else (if a1 > 99999 then (leader_Print.j0 k a0 a1 a2 true) else (if a2 < 0 then (leader_Print.j0 k a0 a1 a2 true) else (leader_Print.j0 k a0 a1 a2 (decide (a2 > 99999)))))) else (leader_Print.j0 k a0 a1 a2 true)) = some (r1, r2) := H
    have A5 := Aside0.mk A50
    clear A50
    by_cases c6 : t129 = true
    · subst c6
      have H1 : (if a1 < 0 then (leader_Print.j0 k a0 a1 a2 true) else (if a1 > 99999 then (leader_Print.j0 k a0 a1 a2 true) else (if a2 < 0 then (leader_Print.j0 k a0 a1 a2 true) else (leader_Print.j0 k a0 a1 a2 (decide (a2 > 99999)))))) = some (r1, r2) := by rw [if_pos rfl] at H; exact H
      clear H
      have H := H1
      clear H1
      by_cases c7 : a1 < 0
      · rw [if_pos c7] at H
        have c7b0 : decide (a1 < 0) = true := decide_eq_true c7
        clear c7
        (first | rw [c7b0] | (simp only [i64_w, i32_w]; rw [c7b0]) | skip)
        have H' := Aside0.mk H
        clear H
        go_wp2_with (first | ((with_reducible refine gate_callee (f := 10) rfl ?_); refine goesL_ (some 9) rfl rfl Try.func10 (by kernel_rfl) rfl #[.string a0] rfl (by (try simp only [List.map_toArray, List.map_cons, List.map_nil]); first | done | rfl | (simp only [List.length_drop, List.length_take]; rfl)) ?_; (with_reducible refine (leader_Sound.calls k a0 true _ A5.out).mono ?_); rintro e w' ⟨rfl, ⟨nd, rfl⟩⟩; refine ⟨_, rfl, ?_⟩))
        go_meet
        case rel => exact ⟨_, (true), (by first | rfl | (simp; done) | (simp [*]; done)), H', ⟨by first | omega | exact Nat.le_refl _⟩, ⟨by repeat (first | (with_reducible first | exact HB.out | apply below_alloc | apply pw_below_drewN | apply below_drew1) | exact HB.out)⟩⟩
      · rw [if_neg c7] at H
        have c7b0 : decide (a1 < 0) = false := decide_eq_false c7
        clear c7
        (first | rw [c7b0] | (simp only [i64_w, i32_w]; rw [c7b0]) | skip)
        by_cases c8 : a1 > 99999
        · rw [if_pos c8] at H
          have c8b0 : decide (99999 < a1) = true := decide_eq_true c8
          clear c8
          have H' := Aside0.mk H
          clear H
          go_wp2_with (first | ((with_reducible refine gate_callee (f := 10) rfl ?_); refine goesL_ (some 9) rfl rfl Try.func10 (by kernel_rfl) rfl #[.string a0] rfl (by (try simp only [List.map_toArray, List.map_cons, List.map_nil]); first | done | rfl | (simp only [List.length_drop, List.length_take]; rfl)) ?_; (with_reducible refine (leader_Sound.calls k a0 true _ A5.out).mono ?_); rintro e w' ⟨rfl, ⟨nd, rfl⟩⟩; refine ⟨_, rfl, ?_⟩))
          go_meet
          case rel => exact ⟨_, (true), (by first | rfl | (simp; done) | (simp [*]; done)), H', ⟨by first | omega | exact Nat.le_refl _⟩, ⟨by repeat (first | (with_reducible first | exact HB.out | apply below_alloc | apply pw_below_drewN | apply below_drew1) | exact HB.out)⟩⟩
        · rw [if_neg c8] at H
          have c8b0 : decide (99999 < a1) = false := decide_eq_false c8
          clear c8
          by_cases c9 : a2 < 0
          · rw [if_pos c9] at H
            have c9b0 : decide (a2 < 0) = true := decide_eq_true c9
            clear c9
            have H' := Aside0.mk H
            clear H
            go_wp2_with (first | ((with_reducible refine gate_callee (f := 10) rfl ?_); refine goesL_ (some 9) rfl rfl Try.func10 (by kernel_rfl) rfl #[.string a0] rfl (by (try simp only [List.map_toArray, List.map_cons, List.map_nil]); first | done | rfl | (simp only [List.length_drop, List.length_take]; rfl)) ?_; (with_reducible refine (leader_Sound.calls k a0 true _ A5.out).mono ?_); rintro e w' ⟨rfl, ⟨nd, rfl⟩⟩; refine ⟨_, rfl, ?_⟩))
            go_meet
            case rel => exact ⟨_, (true), (by first | rfl | (simp; done) | (simp [*]; done)), H', ⟨by first | omega | exact Nat.le_refl _⟩, ⟨by repeat (first | (with_reducible first | exact HB.out | apply below_alloc | apply pw_below_drewN | apply below_drew1) | exact HB.out)⟩⟩
          · rw [if_neg c9] at H
            have c9b0 : decide (a2 < 0) = false := decide_eq_false c9
            clear c9
            have H' := Aside0.mk H
            clear H
            go_wp2_with (first | ((with_reducible refine gate_callee (f := 10) rfl ?_); refine goesL_ (some 9) rfl rfl Try.func10 (by kernel_rfl) rfl #[.string a0] rfl (by (try simp only [List.map_toArray, List.map_cons, List.map_nil]); first | done | rfl | (simp only [List.length_drop, List.length_take]; rfl)) ?_; (with_reducible refine (leader_Sound.calls k a0 true _ A5.out).mono ?_); rintro e w' ⟨rfl, ⟨nd, rfl⟩⟩; refine ⟨_, rfl, ?_⟩))
            go_meet
            case rel => exact ⟨_, (decide (a2 > 99999)), (by first | rfl | (simp; done) | (simp [*]; done)), H', ⟨by first | omega | exact Nat.le_refl _⟩, ⟨by repeat (first | (with_reducible first | exact HB.out | apply below_alloc | apply pw_below_drewN | apply below_drew1) | exact HB.out)⟩⟩
    · replace c6 := Bool.eq_false_iff.mpr c6
      subst c6
      have H1 : (leader_Print.j0 k a0 a1 a2 true) = some (r1, r2) := by rw [if_neg (show ¬ (false = true) by decide)] at H; exact H
      clear H
      have H := H1
      clear H1
      have H' := Aside0.mk H
      clear H
      go_wp2_with (first | ((with_reducible refine gate_callee (f := 10) rfl ?_); refine goesL_ (some 9) rfl rfl Try.func10 (by kernel_rfl) rfl #[.string a0] rfl (by (try simp only [List.map_toArray, List.map_cons, List.map_nil]); first | done | rfl | (simp only [List.length_drop, List.length_take]; rfl)) ?_; (with_reducible refine (leader_Sound.calls k a0 false _ A5.out).mono ?_); rintro e w' ⟨rfl, ⟨nd, rfl⟩⟩; refine ⟨_, rfl, ?_⟩))
      go_meet
      case rel => exact ⟨_, (true), (by first | rfl | (simp; done) | (simp [*]; done)), H', ⟨by first | omega | exact Nat.le_refl _⟩, ⟨by repeat (first | (with_reducible first | exact HB.out | apply below_alloc | apply pw_below_drewN | apply below_drew1) | exact HB.out)⟩⟩
  case rest =>
    clear HC4
    try clear c1
    try clear p2
    try clear c6
    try clear c7
    try clear c7b0
    try clear c8
    try clear c8b0
    try clear c9
    try clear c9b0
    obtain ⟨kq, x26_3, rfl, HA, HJ3, HB⟩ := hcut
    cases kq with
    | zero => exact absurd HA.out (by simp [leader_Print.j0])
    | succ kj3 =>
      have H := HA.out
      clear HA
      simp only [leader_Print.j0] at H
      by_cases c10 : x26_3 = true
      · subst c10
        have H1 : (some (([] : List Int), false)) = some (r1, r2) := by rw [if_pos rfl] at H; exact H
        clear H
        have H := H1
        clear H1
        simp only [Option.some.injEq, Prod.mk.injEq] at H
        obtain ⟨rfl, rfl⟩ := H
        go_wp2
        go_ret2
        exact ⟨_, by first | rfl | (simp [errW_none, errW_some] <;> rfl) | (simp [*, errW_none, errW_some] <;> rfl), NR.R_nil _ _ _ _, by repeat (first | (with_reducible first | exact HB.out | apply below_alloc | apply pw_below_drewN | apply below_drew1) | exact HB.out)⟩
      · replace c10 := Bool.eq_false_iff.mpr c10
        subst c10
        have H1 : ((leader_Five.f kj3 a1).bind fun t130 => (if 5 ≤ 12 then (if 12 ≤ (a0.size : Int) then (if t130.size + (a0.extract 5 12).size ≤ 9223372036854775807 then ((leader_Five.f kj3 a2).bind fun t131 => (if (t130 ++ (a0.extract 5 12)).size + t131.size ≤ 9223372036854775807 then (if 17 ≤ (a0.size : Int) then (if ((t130 ++ (a0.extract 5 12)) ++ t131).size + (a0.extract 17 a0.size).size ≤ 9223372036854775807 then (if 0 < (((t130 ++ (a0.extract 5 12)) ++ t131) ++ (a0.extract 17 a0.size)).size then (if (((t130 ++ (a0.extract 5 12)) ++ t131) ++ (a0.extract 17 a0.size)).size ≤ 9223372036854775807 then (some ((bytesOf (((t130 ++ (a0.extract 5 12)) ++ t131) ++ (a0.extract 17 a0.size))), true)) else (none)) else (none)) else (none)) else (none)) else (none))) else (none)) else (none)) else (none))) = some (r1, r2) := by rw [if_neg (show ¬ (false = true) by decide)] at H; exact H
        clear H
        have H := H1
        clear H1
        replace H := Option.bind_eq_some_iff.mp H
        obtain ⟨t130, A110, H⟩ := H
        replace H : (if 5 ≤ 12 then (if 12 ≤ (a0.size : Int) then (if t130.size + (a0.extract 5 12).size ≤ 9223372036854775807 then ((leader_Five.f kj3 a2).bind fun t131 => (if (t130 ++ (a0.extract 5 12)).size + t131.size ≤ 9223372036854775807 then (if 17 ≤ (a0.size : Int) then (if ((t130 ++ (a0.extract 5 12)) ++ t131).size + (a0.extract 17 a0.size).size ≤ 9223372036854775807 then (if 0 < (((t130 ++ (a0.extract 5 12)) ++ t131) ++ (a0.extract 17 a0.size)).size then (if (((t130 ++ (a0.extract 5 12)) ++ t131) ++ (a0.extract 17 a0.size)).size ≤ 9223372036854775807 then (some ((bytesOf (((t130 ++ (a0.extract 5 12)) ++ t131) ++ (a0.extract 17 a0.size))), true)) else (none)) else (none)) else (none)) else (none)) else (none))) else (none)) else (none)) else (none)) = some (r1, r2) := H
        have A11 := Aside0.mk A110
        clear A110
        by_cases c12 : 5 ≤ 12
        · rw [if_pos c12] at H
          have c12b0 := eq_true c12
          have c12b1 : decide (5 ≤ 12) = true := decide_eq_true c12
          clear c12
          by_cases c13 : 12 ≤ (a0.size : Int)
          · rw [if_pos c13] at H
            have c13b0 := eq_true c13
            have c13b1 : decide (12 ≤ (a0.size : Int)) = true := decide_eq_true c13
            clear c13
            by_cases c14 : t130.size + (a0.extract 5 12).size ≤ 9223372036854775807
            · rw [if_pos c14] at H
              have c14b0 := eq_true c14
              have c14b1 : decide (t130.size + (a0.extract 5 12).size ≤ 9223372036854775807) = true := decide_eq_true c14
              try have c14b2 : (9223372036854775807 < t130.size + (a0.extract 5 12).size) = False := eq_false (Nat.not_lt.2 c14)
              have c14b3 : (9223372036854775807 < t130.size + (min 12 a0.size - 5)) = False := eq_false (by have h_ := c14; rw [ByteArray.size_extract] at h_; omega)
              replace H := Option.bind_eq_some_iff.mp H
              obtain ⟨t131, A150, H⟩ := H
              replace H : (if (t130 ++ (a0.extract 5 12)).size + t131.size ≤ 9223372036854775807 then (if 17 ≤ (a0.size : Int) then (if ((t130 ++ (a0.extract 5 12)) ++ t131).size + (a0.extract 17 a0.size).size ≤ 9223372036854775807 then (if 0 < (((t130 ++ (a0.extract 5 12)) ++ t131) ++ (a0.extract 17 a0.size)).size then (if (((t130 ++ (a0.extract 5 12)) ++ t131) ++ (a0.extract 17 a0.size)).size ≤ 9223372036854775807 then (some ((bytesOf (((t130 ++ (a0.extract 5 12)) ++ t131) ++ (a0.extract 17 a0.size))), true)) else (none)) else (none)) else (none)) else (none)) else (none)) = some (r1, r2) := H
              have A15 := Aside0.mk A150
              clear A150
              by_cases c16 : (t130 ++ (a0.extract 5 12)).size + t131.size ≤ 9223372036854775807
              · rw [if_pos c16] at H
                have c16b0 := eq_true c16
                have c16b1 : decide ((t130 ++ (a0.extract 5 12)).size + t131.size ≤ 9223372036854775807) = true := decide_eq_true c16
                try have c16b2 : (9223372036854775807 < (t130 ++ (a0.extract 5 12)).size + t131.size) = False := eq_false (Nat.not_lt.2 c16)
                have c16b3 : (9223372036854775807 < t130.size + (min 12 a0.size - 5) + t131.size) = False := eq_false (by have h_ := c16; rw [ByteArray.size_append, ByteArray.size_extract] at h_; omega)
                by_cases c17 : 17 ≤ (a0.size : Int)
                · rw [if_pos c17] at H
                  have c17b0 := eq_true c17
                  have c17b1 : decide (17 ≤ (a0.size : Int)) = true := decide_eq_true c17
                  clear c17
                  by_cases c18 : ((t130 ++ (a0.extract 5 12)) ++ t131).size + (a0.extract 17 a0.size).size ≤ 9223372036854775807
                  · rw [if_pos c18] at H
                    have c18b0 := eq_true c18
                    have c18b1 : decide (((t130 ++ (a0.extract 5 12)) ++ t131).size + (a0.extract 17 a0.size).size ≤ 9223372036854775807) = true := decide_eq_true c18
                    try have c18b2 : (9223372036854775807 < ((t130 ++ (a0.extract 5 12)) ++ t131).size + (a0.extract 17 a0.size).size) = False := eq_false (Nat.not_lt.2 c18)
                    have c18b3 : (9223372036854775807 < t130.size + (min 12 a0.size - 5) + t131.size + (a0.size - 17)) = False := eq_false (by have h_ := c18; rw [ByteArray.size_append, ByteArray.size_append, ByteArray.size_extract, ByteArray.size_extract] at h_; omega)
                    by_cases cS0 : 0 < (((t130 ++ (a0.extract 5 12)) ++ t131) ++ (a0.extract 17 a0.size)).size
                    case neg => rw [if_neg cS0] at H; exact absurd H (by simp)
                    rw [if_pos cS0] at H
                    by_cases cS1 : (((t130 ++ (a0.extract 5 12)) ++ t131) ++ (a0.extract 17 a0.size)).size ≤ 9223372036854775807
                    case neg => rw [if_neg cS1] at H; exact absurd H (by simp)
                    rw [if_pos cS1] at H
                    have HS0 := Aside0.mk cS0
                    have HS1 := Aside0.mk cS1
                    clear cS0 cS1
                    obtain ⟨y132, hy132⟩ : ∃ y_ : List Int, y_ = bytesOf (((t130 ++ (a0.extract 5 12)) ++ t131) ++ (a0.extract 17 a0.size)) := ⟨_, rfl⟩
                    replace H : (some (y132, true)) = some (r1, r2) := by first | (rw [hy132]; with_reducible exact H) | (have H2_ := (Option.bind_some _ _).symm.trans H; rw [hy132]; with_reducible exact H2_) | (have H2_ := (Option.bind_some _ _).symm.trans H; with_reducible exact H2_) | with_reducible exact H | (rw [hy132]; exact H) | exact H
                    have Ny132 := Aside0.mk hy132
                    clear hy132
                    simp only [Option.some.injEq, Prod.mk.injEq] at H
                    obtain ⟨rfl, rfl⟩ := H
                    try go_wp2
                    have n0_ := Aside0.mk (below_drew1 HB.out)
                    clear HB
                    have HB := n0_
                    clear n0_
                    refine start_ (n := 14) (S := fun w' => True) (ds := []) #[false, false, false, false, false, false, false, false, false, false, false, false, false, false] (by kernel_rfl) rfl rfl trivial (fun hHeld => ?_); refine with_tabW leader_Print.tab3 leader_Print.bits3 (fun HT_ HW_ => ?_)
                    generalize wc.drew = w19 at HB hHeld ⊢
                    refine pure_ (i := 0) (N := some 27) (v := ?_) (a' := ?_) #[true, false, false, false, false, false, false, false, false, false, false, false, false, false] rfl rfl (any_of HT_.out (by kernel_rfl)) (fun _ _ _ h => h) (Or.inl ⟨by rfl, ?_⟩) ?_ ?_
                    rotate_left
                    · intro w'
                      go_simp
                      with_reducible rfl
                    rotate_left
                    · simp only [Act.put, List.setIfInBounds_toArray, List.set_cons_zero, List.set_cons_succ, i64_w, i32_w]
                      rfl
                    refine pure_ (i := 2) (N := some 29) (v := ?_) (a' := ?_) #[true, false, true, false, false, false, false, false, false, false, false, false, false, false] rfl rfl (any_of HT_.out (by kernel_rfl)) (fun _ _ _ h => h) (Or.inl ⟨by rfl, ?_⟩) ?_ ?_
                    rotate_left
                    · intro w'
                      go_simp
                      with_reducible rfl
                    rotate_left
                    · simp only [Act.put, List.setIfInBounds_toArray, List.set_cons_zero, List.set_cons_succ, i64_w, i32_w]
                      rfl
                    refine pure_ (i := 3) (N := some 30) (v := ?_) (a' := ?_) #[true, false, true, true, false, false, false, false, false, false, false, false, false, false] rfl rfl (any_of HT_.out (by kernel_rfl)) (fun _ _ _ h => h) (Or.inl ⟨by rfl, ?_⟩) ?_ ?_
                    rotate_left
                    · intro w'
                      go_simp
                      with_reducible rfl
                    rotate_left
                    · simp only [Act.put, List.setIfInBounds_toArray, List.set_cons_zero, List.set_cons_succ, i64_w, i32_w]
                      rfl
                    refine pure_ (i := 5) (N := some 32) (v := ?_) (a' := ?_) #[true, false, true, true, false, true, false, false, false, false, false, false, false, false] rfl rfl (any_of HT_.out (by kernel_rfl)) (fun _ _ _ h => h) (Or.inl ⟨by rfl, ?_⟩) ?_ ?_
                    rotate_left
                    · intro w'
                      go_simp
                      with_reducible rfl
                    rotate_left
                    · simp only [Act.put, List.setIfInBounds_toArray, List.set_cons_zero, List.set_cons_succ, i64_w, i32_w]
                      rfl
                    refine pure_ (i := 8) (N := some 35) (v := ?_) (a' := ?_) #[true, false, true, true, false, true, false, false, true, false, false, false, false, false] rfl rfl (any_of HT_.out (by kernel_rfl)) (fun _ _ _ h => h) (Or.inl ⟨by rfl, ?_⟩) ?_ ?_
                    rotate_left
                    · intro w'
                      go_simp
                      with_reducible rfl
                    rotate_left
                    · simp only [Act.put, List.setIfInBounds_toArray, List.set_cons_zero, List.set_cons_succ, i64_w, i32_w]
                      rfl
                    refine pure_ (i := 9) (N := some 36) (v := ?_) (a' := ?_) #[true, false, true, true, false, true, false, false, true, true, false, false, false, false] rfl rfl (any_of HT_.out (by kernel_rfl)) (fun _ _ _ h => h) (Or.inl ⟨by rfl, ?_⟩) ?_ ?_
                    rotate_left
                    · intro w'
                      go_simp
                      with_reducible rfl
                    rotate_left
                    · simp only [Act.put, List.setIfInBounds_toArray, List.set_cons_zero, List.set_cons_succ, i64_w, i32_w]
                      rfl
                    refine one_ (i := 1) (N := some 28) #[true, true, true, true, false, true, false, false, true, true, false, false, false, false] rfl rfl (one_of HT_.out (by kernel_rfl)) (by decide) (fun K hK => ?_)
                    refine goes_ Try.func21 (by kernel_rfl) rfl #[.int .i64 a1] (by rfl) rfl rfl (by (try simp only [List.map_toArray, List.map_cons, List.map_nil]); first | done | rfl | (simp only [List.length_drop, List.length_take]; rfl)) ?_
                    with_reducible refine (leader_Five.calls kj3 a1 t130 _ A11.out).mono ?_
                    rintro e w20 ⟨rfl, hb⟩
                    refine ⟨_, rfl, ?_⟩
                    have n0_ := Aside0.mk (below_step (by repeat (first | (with_reducible first | exact HB.out | apply below_alloc | apply pw_below_drewN | apply below_drew1) | exact HB.out)) hb)
                    clear HB
                    have HB := n0_
                    clear n0_
                    (try clear hb)
                    (try clear hb2)
                    (try clear hk)
                    (try clear hi)
                    refine hK.out _ _ trivial (fun hHeld => ?_)
                    clear hK K
                    refine norm_ (a' := ?_) ?_ ?_
                    rotate_left
                    · show Act.put _ (some 28) _ = _
                      simp only [Act.put, List.setIfInBounds_toArray, List.set_cons_zero, List.set_cons_succ, i64_w, i32_w]
                      rfl
                    refine pure_ (i := 4) (N := some 31) (v := ?_) (a' := ?_) #[true, true, true, true, true, true, false, false, true, true, false, false, false, false] rfl rfl (any_of HT_.out (by kernel_rfl)) (fun _ _ _ h => h) (Or.inl ⟨by rfl, ?_⟩) ?_ ?_
                    rotate_left
                    · intro w'
                      go_simp
                      with_reducible rfl
                    rotate_left
                    · simp only [Act.put, List.setIfInBounds_toArray, List.set_cons_zero, List.set_cons_succ, i64_w, i32_w]
                      rfl
                    refine one_ (i := 6) (N := some 33) #[true, true, true, true, true, true, true, false, true, true, false, false, false, false] rfl rfl (one_of HT_.out (by kernel_rfl)) (by decide) (fun K hK => ?_)
                    refine goes_ Try.func21 (by kernel_rfl) rfl #[.int .i64 a2] (by rfl) rfl rfl (by (try simp only [List.map_toArray, List.map_cons, List.map_nil]); first | done | rfl | (simp only [List.length_drop, List.length_take]; rfl)) ?_
                    with_reducible refine (leader_Five.calls kj3 a2 t131 _ A15.out).mono ?_
                    rintro e w21 ⟨rfl, hb⟩
                    refine ⟨_, rfl, ?_⟩
                    have n0_ := Aside0.mk (below_step (by repeat (first | (with_reducible first | exact HB.out | apply below_alloc | apply pw_below_drewN | apply below_drew1) | exact HB.out)) hb)
                    clear HB
                    have HB := n0_
                    clear n0_
                    (try clear hb)
                    (try clear hb2)
                    (try clear hk)
                    (try clear hi)
                    refine hK.out _ _ trivial (fun hHeld => ?_)
                    clear hK K
                    refine norm_ (a' := ?_) ?_ ?_
                    rotate_left
                    · show Act.put _ (some 33) _ = _
                      simp only [Act.put, List.setIfInBounds_toArray, List.set_cons_zero, List.set_cons_succ, i64_w, i32_w]
                      rfl
                    refine pure_ (i := 7) (N := some 34) (v := ?_) (a' := ?_) #[true, true, true, true, true, true, true, true, true, true, false, false, false, false] rfl rfl (any_of HT_.out (by kernel_rfl)) (fun _ _ _ h => h) (Or.inl ⟨by rfl, ?_⟩) ?_ ?_
                    rotate_left
                    · intro w'
                      go_simp
                      with_reducible rfl
                    rotate_left
                    · simp only [Act.put, List.setIfInBounds_toArray, List.set_cons_zero, List.set_cons_succ, i64_w, i32_w]
                      rfl
                    refine pure_ (i := 10) (N := some 37) (v := ?_) (a' := ?_) #[true, true, true, true, true, true, true, true, true, true, true, false, false, false] rfl rfl (any_of HT_.out (by kernel_rfl)) (fun _ _ _ h => h) (Or.inl ⟨by rfl, ?_⟩) ?_ ?_
                    rotate_left
                    · intro w'
                      go_simp
                      with_reducible rfl
                    rotate_left
                    · simp only [Act.put, List.setIfInBounds_toArray, List.set_cons_zero, List.set_cons_succ, i64_w, i32_w]
                      rfl
                    refine one_ (i := 11) (N := some 38) #[true, true, true, true, true, true, true, true, true, true, true, true, false, false] rfl rfl (one_of HT_.out (by kernel_rfl)) (by decide) (fun K hK => ?_)
                    refine MR.lit_step (ok := fun _ => True) (((t130 ++ (a0.extract 5 12)) ++ t131) ++ (a0.extract 17 a0.size)) y132 Ny132.out HS1.out 5 ?hg (N := 38) ?hd ?hr trivial ?_; (case hd => rfl); (case hg => rfl); (case hr => first | (go_simp; done) | (go_simp; rfl))
                    intro v133 w22 ho23 hb hg_ hnew_
                    clear hg_ hnew_
                    have n0_ := Aside0.mk (MR.R_lower ho23 (below_size (by repeat (first | (with_reducible first | exact HB.out | apply below_alloc | apply pw_below_drewN | apply below_drew1) | exact HB.out))))
                    have n1_ := Aside0.mk (below_step (by repeat (first | (with_reducible first | exact HB.out | apply below_alloc | apply pw_below_drewN | apply below_drew1) | exact HB.out)) hb)
                    clear HB
                    have HO134 := n0_
                    have HB := n1_
                    clear n0_ n1_
                    clear hb ho23
                    refine hK.out _ _ trivial (fun hHeld => ?_)
                    clear hK K
                    refine norm_ (a' := ?_) ?_ ?_
                    rotate_left
                    · show Act.put _ (some 38) _ = _
                      simp only [Act.put, List.setIfInBounds_toArray, List.set_cons_zero, List.set_cons_succ, i64_w, i32_w]
                      rfl
                    refine pure_ (i := 12) (N := some 6) (v := ?_) (a' := ?_) #[true, true, true, true, true, true, true, true, true, true, true, true, true, false] rfl rfl (any_of HT_.out (by kernel_rfl)) (fun _ _ _ h => h) (Or.inl ⟨by rfl, ?_⟩) ?_ ?_
                    rotate_left
                    · intro w'
                      go_simp
                      with_reducible rfl
                    rotate_left
                    · simp only [Act.put, List.setIfInBounds_toArray, List.set_cons_zero, List.set_cons_succ, i64_w, i32_w]
                      rfl
                    refine pure_ (i := 13) (N := some 7) (v := ?_) (a' := ?_) #[true, true, true, true, true, true, true, true, true, true, true, true, true, true] rfl rfl (any_of HT_.out (by kernel_rfl)) (fun _ _ _ h => h) (Or.inl ⟨by rfl, ?_⟩) ?_ ?_
                    rotate_left
                    · intro w'
                      go_simp
                      with_reducible rfl
                    rotate_left
                    · simp only [Act.put, List.setIfInBounds_toArray, List.set_cons_zero, List.set_cons_succ, i64_w, i32_w]
                      rfl
                    refine done_ (done_of HT_.out (by kernel_rfl)) ?_
                    try go_wp2
                    go_ret2
                    exact ⟨_, by first | rfl | (simp [errW_none, errW_some] <;> rfl) | (simp [*, errW_none, errW_some] <;> rfl), NR.of_mark (by (with_reducible repeat (first | apply MR.R_alloc | apply MR.R_drewN | apply MR.R_drew)); exact HO134.out) (by rw [Ny132.out]; exact ne_of_size HS0.out), by repeat (first | (with_reducible first | exact HB.out | apply below_alloc | apply pw_below_drewN | apply below_drew1) | exact HB.out)⟩
                  · rw [if_neg c18] at H
                    exact absurd H (by simp)
                · rw [if_neg c17] at H
                  exact absurd H (by simp)
              · rw [if_neg c16] at H
                exact absurd H (by simp)
            · rw [if_neg c14] at H
              exact absurd H (by simp)
          · rw [if_neg c13] at H
            exact absurd H (by simp)
        · rw [if_neg c12] at H
          exact absurd H (by simp)

/-! ### amanuensislaw19_LeaderPrints: function 6 -/
mutual
def amanuensislaw19_LeaderPrints.j0 : Nat → ByteArray → Int → Int → List Int → Bool → Bool → Option (Bool)
  | 0, _, _, _, _, _, _ => none
  | k + 1, x0, x1, x2, x7, x8, x9 => (amanuensislaw19_answers.f k).bind fun t141 => (if t141 = true then (amanuensislaw19_LeaderPrints.j1 k x0 x1 x2 x7 x8 (x8 != x9)) else (amanuensislaw19_LeaderPrints.j1 k x0 x1 x2 x7 x8 true))
def amanuensislaw19_LeaderPrints.j1 : Nat → ByteArray → Int → Int → List Int → Bool → Bool → Option (Bool)
  | 0, _, _, _, _, _, _ => none
  | k + 1, x0, x1, x2, x7, x8, x48 => if x48 = true then (some false) else (if x8 = true then ((leader_Parse.f k x7).bind fun bt142 => (if bt142.2.2.1 = 0 then (if bt142.1 = x1 then (if bt142.2.1 = x2 then (if 5 ≤ 12 then (if 12 ≤ (x7.length : Int) then (if 12 ≤ (x0.size : Int) then (if (strOfNums ((x7.take 12).drop 5)).toList = (x0.extract 5 12).toList then (if 17 ≤ (x7.length : Int) then (if 17 ≤ (x0.size : Int) then (some ((strOfNums (x7.drop 17)).toList == (x0.extract 17 x0.size).toList)) else (none)) else (none)) else (some false)) else (none)) else (none)) else (none)) else (some false)) else (some false)) else (some false))) else (some ((x7.length : Int) == 0)))
end
def amanuensislaw19_LeaderPrints.f (k : Nat) (a0 : ByteArray) (a1 : Int) (a2 : Int) : Option (Bool) := if (a0.size : Int) > 100 then ((amanuensislaw19_answers.f k).bind fun t135 => (some t135)) else ((leader_Print.f k a0 a1 a2).bind fun bt136 => ((amanuensisref19_Sound.f k a0).bind fun t140 => (if t140 = true then (if a1 ≥ 0 then (if a1 ≤ 99999 then (if a2 ≥ 0 then (amanuensislaw19_LeaderPrints.j0 k a0 a1 a2 bt136.1 bt136.2 (decide (a2 ≤ 99999))) else (amanuensislaw19_LeaderPrints.j0 k a0 a1 a2 bt136.1 bt136.2 false)) else (amanuensislaw19_LeaderPrints.j0 k a0 a1 a2 bt136.1 bt136.2 false)) else (amanuensislaw19_LeaderPrints.j0 k a0 a1 a2 bt136.1 bt136.2 false)) else (amanuensislaw19_LeaderPrints.j0 k a0 a1 a2 bt136.1 bt136.2 false))))
theorem amanuensislaw19_LeaderPrints.mono_l : ∀ k, (∀ y0 y1 y2 y3 y4 y5, LeO (amanuensislaw19_LeaderPrints.j0 k y0 y1 y2 y3 y4 y5) (amanuensislaw19_LeaderPrints.j0 (k + 1) y0 y1 y2 y3 y4 y5)) ∧ (∀ y0 y1 y2 y3 y4 y5, LeO (amanuensislaw19_LeaderPrints.j1 k y0 y1 y2 y3 y4 y5) (amanuensislaw19_LeaderPrints.j1 (k + 1) y0 y1 y2 y3 y4 y5))
  | 0 => ⟨fun _ _ _ _ _ _ r h => by simp [amanuensislaw19_LeaderPrints.j0] at h, fun _ _ _ _ _ _ r h => by simp [amanuensislaw19_LeaderPrints.j1] at h⟩
  | k + 1 => by
    obtain ⟨ih0, ih1⟩ := amanuensislaw19_LeaderPrints.mono_l k
    refine ⟨?_, ?_⟩
    · intro y0 y1 y2 y3 y4 y5
      unfold amanuensislaw19_LeaderPrints.j0
      repeat' first
      | (with_reducible exact ih0 _ _ _ _ _ _)
      | (with_reducible exact ih1 _ _ _ _ _ _)
      | (with_reducible exact amanuensislaw19_answers.mono _)
      | (with_reducible exact amanuensisref19_Sound.mono _ _)
      | (with_reducible exact leader_Parse.mono _ _)
      | (with_reducible exact leader_Print.mono _ _ _ _)
      | (with_reducible exact LeO.refl _)
      | (with_reducible exact LeO.none _)
      | (with_reducible refine LeO.ite ?_ ?_)
      | (with_reducible refine LeO.bind ?_ (fun _ => ?_))
      | exact ih0 _ _ _ _ _ _
      | exact ih1 _ _ _ _ _ _
      | exact amanuensislaw19_answers.mono _
      | exact amanuensisref19_Sound.mono _ _
      | exact leader_Parse.mono _ _
      | exact leader_Print.mono _ _ _ _
      | exact LeO.none _
      | refine LeO.ite ?_ ?_
      | refine LeO.bind ?_ (fun _ => ?_)
    · intro y0 y1 y2 y3 y4 y5
      unfold amanuensislaw19_LeaderPrints.j1
      repeat' first
      | (with_reducible exact ih0 _ _ _ _ _ _)
      | (with_reducible exact ih1 _ _ _ _ _ _)
      | (with_reducible exact amanuensislaw19_answers.mono _)
      | (with_reducible exact amanuensisref19_Sound.mono _ _)
      | (with_reducible exact leader_Parse.mono _ _)
      | (with_reducible exact leader_Print.mono _ _ _ _)
      | (with_reducible exact LeO.refl _)
      | (with_reducible exact LeO.none _)
      | (with_reducible refine LeO.ite ?_ ?_)
      | (with_reducible refine LeO.bind ?_ (fun _ => ?_))
      | exact ih0 _ _ _ _ _ _
      | exact ih1 _ _ _ _ _ _
      | exact amanuensislaw19_answers.mono _
      | exact amanuensisref19_Sound.mono _ _
      | exact leader_Parse.mono _ _
      | exact leader_Print.mono _ _ _ _
      | exact LeO.none _
      | refine LeO.ite ?_ ?_
      | refine LeO.bind ?_ (fun _ => ?_)
theorem amanuensislaw19_LeaderPrints.mono : ∀ a0 a1 a2 k, LeO (amanuensislaw19_LeaderPrints.f k a0 a1 a2) (amanuensislaw19_LeaderPrints.f (k + 1) a0 a1 a2) := by
  intro a0 a1 a2 k
  obtain ⟨ih0, ih1⟩ := amanuensislaw19_LeaderPrints.mono_l k
  unfold amanuensislaw19_LeaderPrints.f
  repeat' first
      | (with_reducible exact ih0 _ _ _ _ _ _)
      | (with_reducible exact ih1 _ _ _ _ _ _)
      | (with_reducible exact amanuensislaw19_answers.mono _)
      | (with_reducible exact amanuensisref19_Sound.mono _ _)
      | (with_reducible exact leader_Parse.mono _ _)
      | (with_reducible exact leader_Print.mono _ _ _ _)
      | (with_reducible exact LeO.refl _)
      | (with_reducible exact LeO.none _)
      | (with_reducible refine LeO.ite ?_ ?_)
      | (with_reducible refine LeO.bind ?_ (fun _ => ?_))
      | exact ih0 _ _ _ _ _ _
      | exact ih1 _ _ _ _ _ _
      | exact amanuensislaw19_answers.mono _
      | exact amanuensisref19_Sound.mono _ _
      | exact leader_Parse.mono _ _
      | exact leader_Print.mono _ _ _ _
      | exact LeO.none _
      | refine LeO.ite ?_ ?_
      | refine LeO.bind ?_ (fun _ => ?_)
set_option maxHeartbeats 8000000 in
set_option maxRecDepth 100000 in
theorem amanuensislaw19_LeaderPrints.calls (k : Nat) (a0 : ByteArray) (a1 : Int) (a2 : Int) (r : Bool) (w : World) (h : amanuensislaw19_LeaderPrints.f k a0 a1 a2 = some r) :
    Calls Try.prog 6 #[.string a0, .int .i64 a1, .int .i64 a2] w fun e w' => e = .returned (.bool r) ∧ Below w.heap.size w w' := by
  have hu26 := Try.underlying26
  have HB := Aside0.mk (Below.refl w.heap.size w)
  have H : (if (a0.size : Int) > 100 then ((amanuensislaw19_answers.f k).bind fun t135 => (some t135)) else ((leader_Print.f k a0 a1 a2).bind fun bt136 => ((amanuensisref19_Sound.f k a0).bind fun t140 => (if t140 = true then (if a1 ≥ 0 then (if a1 ≤ 99999 then (if a2 ≥ 0 then (amanuensislaw19_LeaderPrints.j0 k a0 a1 a2 bt136.1 bt136.2 (decide (a2 ≤ 99999))) else (amanuensislaw19_LeaderPrints.j0 k a0 a1 a2 bt136.1 bt136.2 false)) else (amanuensislaw19_LeaderPrints.j0 k a0 a1 a2 bt136.1 bt136.2 false)) else (amanuensislaw19_LeaderPrints.j0 k a0 a1 a2 bt136.1 bt136.2 false)) else (amanuensislaw19_LeaderPrints.j0 k a0 a1 a2 bt136.1 bt136.2 false))))) = some r := h
  clear h
  by_cases c4 : (a0.size : Int) > 100
  · rw [if_pos c4] at H
    have c4b0 : decide (100 < (a0.size : Int)) = true := decide_eq_true c4
    have c4b1 : decide (100 < a0.size) = true := decide_eq_true (by omega)
    clear c4
    replace H := Option.bind_eq_some_iff.mp H
    obtain ⟨t135, A50, H⟩ := H
    replace H : (some t135) = some r := H
    have A5 := Aside0.mk A50
    clear A50
    obtain rfl := Option.some.inj H
    go_enter Try.func6, Try.ntmps6
    go_wp2_with (first | (go_at_call 7; (with_reducible refine (amanuensislaw19_answers.calls k  t135 _ A5.out).mono ?_); rintro e w6 ⟨rfl, hb⟩; have n0_ := Aside0.mk (below_step (by repeat (first | (with_reducible first | exact HB.out | apply below_alloc | apply pw_below_drewN | apply below_drew1) | exact HB.out)) hb); clear HB; have HB := n0_; clear n0_; (try clear hb); (try clear hb2); (try clear hk); (try clear hi)))
    repeat (go_quiet (first | (go_at_call 7; (with_reducible refine (amanuensislaw19_answers.calls k  t135 _ A5.out).mono ?_); rintro e w6 ⟨rfl, hb⟩; have n0_ := Aside0.mk (below_step (by repeat (first | (with_reducible first | exact HB.out | apply below_alloc | apply pw_below_drewN | apply below_drew1) | exact HB.out)) hb); clear HB; have HB := n0_; clear n0_; (try clear hb); (try clear hb2); (try clear hk); (try clear hi))); try go_wp2_with (first | (go_at_call 7; (with_reducible refine (amanuensislaw19_answers.calls k  t135 _ A5.out).mono ?_); rintro e w6 ⟨rfl, hb⟩; have n0_ := Aside0.mk (below_step (by repeat (first | (with_reducible first | exact HB.out | apply below_alloc | apply pw_below_drewN | apply below_drew1) | exact HB.out)) hb); clear HB; have HB := n0_; clear n0_; (try clear hb); (try clear hb2); (try clear hk); (try clear hi))))
    go_ret
    exact ⟨by first | rfl | (simp [errW_none, errW_some] <;> rfl) | (simp [*, errW_none, errW_some] <;> rfl), by repeat (first | (with_reducible first | exact HB.out | apply below_alloc | apply pw_below_drewN | apply below_drew1) | exact HB.out)⟩
  · rw [if_neg c4] at H
    have c4b0 : decide (100 < (a0.size : Int)) = false := decide_eq_false c4
    have c4b1 : decide (100 < a0.size) = false := decide_eq_false (by omega)
    clear c4
    replace H := Option.bind_eq_some_iff.mp H
    obtain ⟨⟨t136, t137⟩, A70, H⟩ := H
    replace H : ((amanuensisref19_Sound.f k a0).bind fun t140 => (if t140 = true then (if a1 ≥ 0 then (if a1 ≤ 99999 then (if a2 ≥ 0 then (amanuensislaw19_LeaderPrints.j0 k a0 a1 a2 t136 t137 (decide (a2 ≤ 99999))) else (amanuensislaw19_LeaderPrints.j0 k a0 a1 a2 t136 t137 false)) else (amanuensislaw19_LeaderPrints.j0 k a0 a1 a2 t136 t137 false)) else (amanuensislaw19_LeaderPrints.j0 k a0 a1 a2 t136 t137 false)) else (amanuensislaw19_LeaderPrints.j0 k a0 a1 a2 t136 t137 false))) = some r := H
    have A7 := Aside0.mk A70
    clear A70
    have HC8 := Aside0.mk H
    clear H
    go_enter Try.func6, Try.ntmps6
    go_upto_region 4 with (first | (go_at_call 16; (with_reducible refine (leader_Print.calls k a0 a1 a2 t136 t137 _ A7.out).mono ?_); rintro e w9 ⟨v138, rfl, hn0, hb⟩; have n0_ := Aside0.mk (NR.R_lower hn0 (below_size (by repeat (first | (with_reducible first | exact HB.out | apply below_alloc | apply pw_below_drewN | apply below_drew1) | exact HB.out)))); have n1_ := Aside0.mk (below_step (by repeat (first | (with_reducible first | exact HB.out | apply below_alloc | apply pw_below_drewN | apply below_drew1) | exact HB.out)) hb); clear HB; have HO139 := n0_; have HB := n1_; clear n0_ n1_; (try clear hb); (try clear hb2); (try clear hk); (try clear hi); (try clear hn0)))
    repeat (go_quiet (first | (go_at_call 16; (with_reducible refine (leader_Print.calls k a0 a1 a2 t136 t137 _ A7.out).mono ?_); rintro e w9 ⟨v138, rfl, hn0, hb⟩; have n0_ := Aside0.mk (NR.R_lower hn0 (below_size (by repeat (first | (with_reducible first | exact HB.out | apply below_alloc | apply pw_below_drewN | apply below_drew1) | exact HB.out)))); have n1_ := Aside0.mk (below_step (by repeat (first | (with_reducible first | exact HB.out | apply below_alloc | apply pw_below_drewN | apply below_drew1) | exact HB.out)) hb); clear HB; have HO139 := n0_; have HB := n1_; clear n0_ n1_; (try clear hb); (try clear hb2); (try clear hk); (try clear hi); (try clear hn0))); go_upto_region 4 with (first | (go_at_call 16; (with_reducible refine (leader_Print.calls k a0 a1 a2 t136 t137 _ A7.out).mono ?_); rintro e w9 ⟨v138, rfl, hn0, hb⟩; have n0_ := Aside0.mk (NR.R_lower hn0 (below_size (by repeat (first | (with_reducible first | exact HB.out | apply below_alloc | apply pw_below_drewN | apply below_drew1) | exact HB.out)))); have n1_ := Aside0.mk (below_step (by repeat (first | (with_reducible first | exact HB.out | apply below_alloc | apply pw_below_drewN | apply below_drew1) | exact HB.out)) hb); clear HB; have HO139 := n0_; have HB := n1_; clear n0_ n1_; (try clear hb); (try clear hb2); (try clear hk); (try clear hi); (try clear hn0))))
    (try simp only [Act.put, List.setIfInBounds_toArray, List.set_cons_zero, List.set_cons_succ])
    go_cut [9] (fun v9 wc => ∃ (kq : Nat) (x9_7 : Bool), v9 = .bool x9_7 ∧ Aside0 (amanuensislaw19_LeaderPrints.j0 kq a0 a1 a2 t136 t137 x9_7 = some r) ∧ Aside0 (kq ≤ k) ∧ Aside0 (NR 5 wc w.heap.size (fun _ => True) v138 t136) ∧ Aside0 (Below w.heap.size w wc))
    case first =>
      have H := HC8.out
      clear HC8
      replace H := Option.bind_eq_some_iff.mp H
      obtain ⟨t140, A100, H⟩ := H
      replace H : (if t140 = true then (if a1 ≥ 0 then (if a1 ≤ 99999 then (if a2 ≥ 0 then (amanuensislaw19_LeaderPrints.j0 k a0 a1 a2 t136 t137 (decide (a2 ≤ 99999))) else (amanuensislaw19_LeaderPrints.j0 k a0 a1 a2 t136 t137 false)) else (amanuensislaw19_LeaderPrints.j0 k a0 a1 a2 t136 t137 false)) else (amanuensislaw19_LeaderPrints.j0 k a0 a1 a2 t136 t137 false)) else (amanuensislaw19_LeaderPrints.j0 k a0 a1 a2 t136 t137 false)) = some r := H
      have A10 := Aside0.mk A100
      clear A100
      by_cases c11 : t140 = true
      · subst c11
        have H1 : (if a1 ≥ 0 then (if a1 ≤ 99999 then (if a2 ≥ 0 then (amanuensislaw19_LeaderPrints.j0 k a0 a1 a2 t136 t137 (decide (a2 ≤ 99999))) else (amanuensislaw19_LeaderPrints.j0 k a0 a1 a2 t136 t137 false)) else (amanuensislaw19_LeaderPrints.j0 k a0 a1 a2 t136 t137 false)) else (amanuensislaw19_LeaderPrints.j0 k a0 a1 a2 t136 t137 false)) = some r := by rw [if_pos rfl] at H; exact H
        clear H
        have H := H1
        clear H1
        by_cases c12 : a1 ≥ 0
        · rw [if_pos c12] at H
          have c12b0 : decide (0 ≤ a1) = true := decide_eq_true c12
          clear c12
          (first | rw [c12b0] | (simp only [i64_w, i32_w]; rw [c12b0]) | skip)
          by_cases c13 : a1 ≤ 99999
          · rw [if_pos c13] at H
            have c13b0 : decide (a1 ≤ 99999) = true := decide_eq_true c13
            clear c13
            by_cases c14 : a2 ≥ 0
            · rw [if_pos c14] at H
              have c14b0 : decide (0 ≤ a2) = true := decide_eq_true c14
              clear c14
              have H' := Aside0.mk H
              clear H
              go_wp2_with (first | (go_at_call 11; (with_reducible refine (amanuensisref19_Sound.calls k a0 true _ A10.out).mono ?_); rintro e w' ⟨rfl, ⟨nd, rfl⟩⟩; (try first | exact ⟨rfl, _, World.drewN_drewN _ _ _⟩ | exact ⟨rfl, _, Eq.trans (World.drewN_drewN _ _ _) (congrArg (World.drewN _) (Nat.add_assoc _ _ _))⟩)))
              repeat (go_quiet (first | (go_at_call 11; (with_reducible refine (amanuensisref19_Sound.calls k a0 true _ A10.out).mono ?_); rintro e w' ⟨rfl, ⟨nd, rfl⟩⟩; (try first | exact ⟨rfl, _, World.drewN_drewN _ _ _⟩ | exact ⟨rfl, _, Eq.trans (World.drewN_drewN _ _ _) (congrArg (World.drewN _) (Nat.add_assoc _ _ _))⟩))); try go_wp2_with (first | (go_at_call 11; (with_reducible refine (amanuensisref19_Sound.calls k a0 true _ A10.out).mono ?_); rintro e w' ⟨rfl, ⟨nd, rfl⟩⟩; (try first | exact ⟨rfl, _, World.drewN_drewN _ _ _⟩ | exact ⟨rfl, _, Eq.trans (World.drewN_drewN _ _ _) (congrArg (World.drewN _) (Nat.add_assoc _ _ _))⟩))))
              go_meet
              case rel => exact ⟨_, (decide (a2 ≤ 99999)), (by first | rfl | (simp; done) | (simp [*]; done)), H', ⟨by first | omega | exact Nat.le_refl _⟩, ⟨by (with_reducible repeat (first | apply NR.R_alloc | apply NR.R_drewN | apply NR.R_drew)); exact HO139.out⟩, ⟨by repeat (first | (with_reducible first | exact HB.out | apply below_alloc | apply pw_below_drewN | apply below_drew1) | exact HB.out)⟩⟩
            · rw [if_neg c14] at H
              have c14b0 : decide (0 ≤ a2) = false := decide_eq_false c14
              clear c14
              have H' := Aside0.mk H
              clear H
              go_wp2_with (first | (go_at_call 11; (with_reducible refine (amanuensisref19_Sound.calls k a0 true _ A10.out).mono ?_); rintro e w' ⟨rfl, ⟨nd, rfl⟩⟩; (try first | exact ⟨rfl, _, World.drewN_drewN _ _ _⟩ | exact ⟨rfl, _, Eq.trans (World.drewN_drewN _ _ _) (congrArg (World.drewN _) (Nat.add_assoc _ _ _))⟩)))
              repeat (go_quiet (first | (go_at_call 11; (with_reducible refine (amanuensisref19_Sound.calls k a0 true _ A10.out).mono ?_); rintro e w' ⟨rfl, ⟨nd, rfl⟩⟩; (try first | exact ⟨rfl, _, World.drewN_drewN _ _ _⟩ | exact ⟨rfl, _, Eq.trans (World.drewN_drewN _ _ _) (congrArg (World.drewN _) (Nat.add_assoc _ _ _))⟩))); try go_wp2_with (first | (go_at_call 11; (with_reducible refine (amanuensisref19_Sound.calls k a0 true _ A10.out).mono ?_); rintro e w' ⟨rfl, ⟨nd, rfl⟩⟩; (try first | exact ⟨rfl, _, World.drewN_drewN _ _ _⟩ | exact ⟨rfl, _, Eq.trans (World.drewN_drewN _ _ _) (congrArg (World.drewN _) (Nat.add_assoc _ _ _))⟩))))
              go_meet
              case rel => exact ⟨_, (false), (by first | rfl | (simp; done) | (simp [*]; done)), H', ⟨by first | omega | exact Nat.le_refl _⟩, ⟨by (with_reducible repeat (first | apply NR.R_alloc | apply NR.R_drewN | apply NR.R_drew)); exact HO139.out⟩, ⟨by repeat (first | (with_reducible first | exact HB.out | apply below_alloc | apply pw_below_drewN | apply below_drew1) | exact HB.out)⟩⟩
          · rw [if_neg c13] at H
            have c13b0 : decide (a1 ≤ 99999) = false := decide_eq_false c13
            clear c13
            have H' := Aside0.mk H
            clear H
            go_wp2_with (first | (go_at_call 11; (with_reducible refine (amanuensisref19_Sound.calls k a0 true _ A10.out).mono ?_); rintro e w' ⟨rfl, ⟨nd, rfl⟩⟩; (try first | exact ⟨rfl, _, World.drewN_drewN _ _ _⟩ | exact ⟨rfl, _, Eq.trans (World.drewN_drewN _ _ _) (congrArg (World.drewN _) (Nat.add_assoc _ _ _))⟩)))
            repeat (go_quiet (first | (go_at_call 11; (with_reducible refine (amanuensisref19_Sound.calls k a0 true _ A10.out).mono ?_); rintro e w' ⟨rfl, ⟨nd, rfl⟩⟩; (try first | exact ⟨rfl, _, World.drewN_drewN _ _ _⟩ | exact ⟨rfl, _, Eq.trans (World.drewN_drewN _ _ _) (congrArg (World.drewN _) (Nat.add_assoc _ _ _))⟩))); try go_wp2_with (first | (go_at_call 11; (with_reducible refine (amanuensisref19_Sound.calls k a0 true _ A10.out).mono ?_); rintro e w' ⟨rfl, ⟨nd, rfl⟩⟩; (try first | exact ⟨rfl, _, World.drewN_drewN _ _ _⟩ | exact ⟨rfl, _, Eq.trans (World.drewN_drewN _ _ _) (congrArg (World.drewN _) (Nat.add_assoc _ _ _))⟩))))
            go_meet
            case rel => exact ⟨_, (false), (by first | rfl | (simp; done) | (simp [*]; done)), H', ⟨by first | omega | exact Nat.le_refl _⟩, ⟨by (with_reducible repeat (first | apply NR.R_alloc | apply NR.R_drewN | apply NR.R_drew)); exact HO139.out⟩, ⟨by repeat (first | (with_reducible first | exact HB.out | apply below_alloc | apply pw_below_drewN | apply below_drew1) | exact HB.out)⟩⟩
        · rw [if_neg c12] at H
          have c12b0 : decide (0 ≤ a1) = false := decide_eq_false c12
          clear c12
          (first | rw [c12b0] | (simp only [i64_w, i32_w]; rw [c12b0]) | skip)
          have H' := Aside0.mk H
          clear H
          go_wp2_with (first | (go_at_call 11; (with_reducible refine (amanuensisref19_Sound.calls k a0 true _ A10.out).mono ?_); rintro e w' ⟨rfl, ⟨nd, rfl⟩⟩; (try first | exact ⟨rfl, _, World.drewN_drewN _ _ _⟩ | exact ⟨rfl, _, Eq.trans (World.drewN_drewN _ _ _) (congrArg (World.drewN _) (Nat.add_assoc _ _ _))⟩)))
          repeat (go_quiet (first | (go_at_call 11; (with_reducible refine (amanuensisref19_Sound.calls k a0 true _ A10.out).mono ?_); rintro e w' ⟨rfl, ⟨nd, rfl⟩⟩; (try first | exact ⟨rfl, _, World.drewN_drewN _ _ _⟩ | exact ⟨rfl, _, Eq.trans (World.drewN_drewN _ _ _) (congrArg (World.drewN _) (Nat.add_assoc _ _ _))⟩))); try go_wp2_with (first | (go_at_call 11; (with_reducible refine (amanuensisref19_Sound.calls k a0 true _ A10.out).mono ?_); rintro e w' ⟨rfl, ⟨nd, rfl⟩⟩; (try first | exact ⟨rfl, _, World.drewN_drewN _ _ _⟩ | exact ⟨rfl, _, Eq.trans (World.drewN_drewN _ _ _) (congrArg (World.drewN _) (Nat.add_assoc _ _ _))⟩))))
          go_meet
          case rel => exact ⟨_, (false), (by first | rfl | (simp; done) | (simp [*]; done)), H', ⟨by first | omega | exact Nat.le_refl _⟩, ⟨by (with_reducible repeat (first | apply NR.R_alloc | apply NR.R_drewN | apply NR.R_drew)); exact HO139.out⟩, ⟨by repeat (first | (with_reducible first | exact HB.out | apply below_alloc | apply pw_below_drewN | apply below_drew1) | exact HB.out)⟩⟩
      · replace c11 := Bool.eq_false_iff.mpr c11
        subst c11
        have H1 : (amanuensislaw19_LeaderPrints.j0 k a0 a1 a2 t136 t137 false) = some r := by rw [if_neg (show ¬ (false = true) by decide)] at H; exact H
        clear H
        have H := H1
        clear H1
        have H' := Aside0.mk H
        clear H
        go_wp2_with (first | (go_at_call 11; (with_reducible refine (amanuensisref19_Sound.calls k a0 false _ A10.out).mono ?_); rintro e w' ⟨rfl, ⟨nd, rfl⟩⟩; (try first | exact ⟨rfl, _, World.drewN_drewN _ _ _⟩ | exact ⟨rfl, _, Eq.trans (World.drewN_drewN _ _ _) (congrArg (World.drewN _) (Nat.add_assoc _ _ _))⟩)))
        repeat (go_quiet (first | (go_at_call 11; (with_reducible refine (amanuensisref19_Sound.calls k a0 false _ A10.out).mono ?_); rintro e w' ⟨rfl, ⟨nd, rfl⟩⟩; (try first | exact ⟨rfl, _, World.drewN_drewN _ _ _⟩ | exact ⟨rfl, _, Eq.trans (World.drewN_drewN _ _ _) (congrArg (World.drewN _) (Nat.add_assoc _ _ _))⟩))); try go_wp2_with (first | (go_at_call 11; (with_reducible refine (amanuensisref19_Sound.calls k a0 false _ A10.out).mono ?_); rintro e w' ⟨rfl, ⟨nd, rfl⟩⟩; (try first | exact ⟨rfl, _, World.drewN_drewN _ _ _⟩ | exact ⟨rfl, _, Eq.trans (World.drewN_drewN _ _ _) (congrArg (World.drewN _) (Nat.add_assoc _ _ _))⟩))))
        go_meet
        case rel => exact ⟨_, (false), (by first | rfl | (simp; done) | (simp [*]; done)), H', ⟨by first | omega | exact Nat.le_refl _⟩, ⟨by (with_reducible repeat (first | apply NR.R_alloc | apply NR.R_drewN | apply NR.R_drew)); exact HO139.out⟩, ⟨by repeat (first | (with_reducible first | exact HB.out | apply below_alloc | apply pw_below_drewN | apply below_drew1) | exact HB.out)⟩⟩
    case rest =>
      clear HC8
      try clear c1
      try clear p2
      try clear c4
      try clear c4b0
      try clear c4b1
      try clear c6
      try clear c11
      try clear c12
      try clear c12b0
      try clear c13
      try clear c13b0
      try clear c14
      try clear c14b0
      obtain ⟨kq, x9_7, rfl, HA, HJ7, HO_7, HB⟩ := hcut
      cases kq with
      | zero => exact absurd HA.out (by simp [amanuensislaw19_LeaderPrints.j0])
      | succ kj7 =>
        have H := HA.out
        clear HA
        simp only [amanuensislaw19_LeaderPrints.j0] at H
        have HC15 := Aside0.mk H
        clear H
        go_upto_region 5 with (fail)
        repeat (go_quiet (fail); go_upto_region 5 with (fail))
        go_cut [48] (fun v48 wc => ∃ (kq : Nat) (x48_14 : Bool), v48 = .bool x48_14 ∧ Aside0 (amanuensislaw19_LeaderPrints.j1 kq a0 a1 a2 t136 t137 x48_14 = some r) ∧ Aside0 (kq ≤ kj7) ∧ Aside0 (NR 5 wc w.heap.size (fun _ => True) v138 t136) ∧ Aside0 (Below w.heap.size w wc))
        case first =>
          have H := HC15.out
          clear HC15
          replace H := Option.bind_eq_some_iff.mp H
          obtain ⟨t141, A160, H⟩ := H
          replace H : (if t141 = true then (amanuensislaw19_LeaderPrints.j1 kj7 a0 a1 a2 t136 t137 (t137 != x9_7)) else (amanuensislaw19_LeaderPrints.j1 kj7 a0 a1 a2 t136 t137 true)) = some r := H
          have A16 := Aside0.mk A160
          clear A160
          by_cases c17 : t141 = true
          · subst c17
            have H1 : (amanuensislaw19_LeaderPrints.j1 kj7 a0 a1 a2 t136 t137 (t137 != x9_7)) = some r := by rw [if_pos rfl] at H; exact H
            clear H
            have H := H1
            clear H1
            have H' := Aside0.mk H
            clear H
            go_wp2_with (first | (go_at_call 7; (with_reducible refine (amanuensislaw19_answers.calls kj7  true _ A16.out).mono ?_); rintro e w18 ⟨rfl, hb⟩; have n0_ := Aside0.mk (NR.R_below (by (with_reducible repeat (first | apply NR.R_alloc | apply NR.R_drewN | apply NR.R_drew)); exact HO_7.out) hb); have n1_ := Aside0.mk (below_step (by repeat (first | (with_reducible first | exact HB.out | apply below_alloc | apply pw_below_drewN | apply below_drew1) | exact HB.out)) hb); clear HO_7; clear HB; have HO_7 := n0_; have HB := n1_; clear n0_ n1_; (try clear hb); (try clear hb2); (try clear hk); (try clear hi)))
            repeat (go_quiet (first | (go_at_call 7; (with_reducible refine (amanuensislaw19_answers.calls kj7  true _ A16.out).mono ?_); rintro e w18 ⟨rfl, hb⟩; have n0_ := Aside0.mk (NR.R_below (by (with_reducible repeat (first | apply NR.R_alloc | apply NR.R_drewN | apply NR.R_drew)); exact HO_7.out) hb); have n1_ := Aside0.mk (below_step (by repeat (first | (with_reducible first | exact HB.out | apply below_alloc | apply pw_below_drewN | apply below_drew1) | exact HB.out)) hb); clear HO_7; clear HB; have HO_7 := n0_; have HB := n1_; clear n0_ n1_; (try clear hb); (try clear hb2); (try clear hk); (try clear hi))); try go_wp2_with (first | (go_at_call 7; (with_reducible refine (amanuensislaw19_answers.calls kj7  true _ A16.out).mono ?_); rintro e w18 ⟨rfl, hb⟩; have n0_ := Aside0.mk (NR.R_below (by (with_reducible repeat (first | apply NR.R_alloc | apply NR.R_drewN | apply NR.R_drew)); exact HO_7.out) hb); have n1_ := Aside0.mk (below_step (by repeat (first | (with_reducible first | exact HB.out | apply below_alloc | apply pw_below_drewN | apply below_drew1) | exact HB.out)) hb); clear HO_7; clear HB; have HO_7 := n0_; have HB := n1_; clear n0_ n1_; (try clear hb); (try clear hb2); (try clear hk); (try clear hi))))
            go_meet
            case rel => exact ⟨_, ((t137 != x9_7)), (by first | rfl | (simp; done) | (simp [*]; done)), H', ⟨by have := HJ7.out; first | omega | exact Nat.le_refl _⟩, ⟨by (with_reducible repeat (first | apply NR.R_alloc | apply NR.R_drewN | apply NR.R_drew)); exact HO_7.out⟩, ⟨by repeat (first | (with_reducible first | exact HB.out | apply below_alloc | apply pw_below_drewN | apply below_drew1) | exact HB.out)⟩⟩
          · replace c17 := Bool.eq_false_iff.mpr c17
            subst c17
            have H1 : (amanuensislaw19_LeaderPrints.j1 kj7 a0 a1 a2 t136 t137 true) = some r := by rw [if_neg (show ¬ (false = true) by decide)] at H; exact H
            clear H
            have H := H1
            clear H1
            have H' := Aside0.mk H
            clear H
            go_wp2_with (first | (go_at_call 7; (with_reducible refine (amanuensislaw19_answers.calls kj7  false _ A16.out).mono ?_); rintro e w19 ⟨rfl, hb⟩; have n0_ := Aside0.mk (NR.R_below (by (with_reducible repeat (first | apply NR.R_alloc | apply NR.R_drewN | apply NR.R_drew)); exact HO_7.out) hb); have n1_ := Aside0.mk (below_step (by repeat (first | (with_reducible first | exact HB.out | apply below_alloc | apply pw_below_drewN | apply below_drew1) | exact HB.out)) hb); clear HO_7; clear HB; have HO_7 := n0_; have HB := n1_; clear n0_ n1_; (try clear hb); (try clear hb2); (try clear hk); (try clear hi)))
            repeat (go_quiet (first | (go_at_call 7; (with_reducible refine (amanuensislaw19_answers.calls kj7  false _ A16.out).mono ?_); rintro e w19 ⟨rfl, hb⟩; have n0_ := Aside0.mk (NR.R_below (by (with_reducible repeat (first | apply NR.R_alloc | apply NR.R_drewN | apply NR.R_drew)); exact HO_7.out) hb); have n1_ := Aside0.mk (below_step (by repeat (first | (with_reducible first | exact HB.out | apply below_alloc | apply pw_below_drewN | apply below_drew1) | exact HB.out)) hb); clear HO_7; clear HB; have HO_7 := n0_; have HB := n1_; clear n0_ n1_; (try clear hb); (try clear hb2); (try clear hk); (try clear hi))); try go_wp2_with (first | (go_at_call 7; (with_reducible refine (amanuensislaw19_answers.calls kj7  false _ A16.out).mono ?_); rintro e w19 ⟨rfl, hb⟩; have n0_ := Aside0.mk (NR.R_below (by (with_reducible repeat (first | apply NR.R_alloc | apply NR.R_drewN | apply NR.R_drew)); exact HO_7.out) hb); have n1_ := Aside0.mk (below_step (by repeat (first | (with_reducible first | exact HB.out | apply below_alloc | apply pw_below_drewN | apply below_drew1) | exact HB.out)) hb); clear HO_7; clear HB; have HO_7 := n0_; have HB := n1_; clear n0_ n1_; (try clear hb); (try clear hb2); (try clear hk); (try clear hi))))
            go_meet
            case rel => exact ⟨_, (true), (by first | rfl | (simp; done) | (simp [*]; done)), H', ⟨by have := HJ7.out; first | omega | exact Nat.le_refl _⟩, ⟨by (with_reducible repeat (first | apply NR.R_alloc | apply NR.R_drewN | apply NR.R_drew)); exact HO_7.out⟩, ⟨by repeat (first | (with_reducible first | exact HB.out | apply below_alloc | apply pw_below_drewN | apply below_drew1) | exact HB.out)⟩⟩
        case rest =>
          clear HC15
          try clear c1
          try clear p2
          try clear c4
          try clear c4b0
          try clear c4b1
          try clear c6
          try clear c11
          try clear c12
          try clear c12b0
          try clear c13
          try clear c13b0
          try clear c14
          try clear c14b0
          try clear c17
          try clear p2
          obtain ⟨kq, x48_14, rfl, HA, HJ14, HO_7, HB⟩ := hcut
          cases kq with
          | zero => exact absurd HA.out (by simp [amanuensislaw19_LeaderPrints.j1])
          | succ kj14 =>
            have H := HA.out
            clear HA
            simp only [amanuensislaw19_LeaderPrints.j1] at H
            by_cases c20 : x48_14 = true
            · subst c20
              have H1 : (some false) = some r := by rw [if_pos rfl] at H; exact H
              clear H
              have H := H1
              clear H1
              obtain rfl := Option.some.inj H
              go_wp2
              repeat (go_quiet (fail); try go_wp2)
              go_ret
              exact ⟨by first | rfl | (simp [errW_none, errW_some] <;> rfl) | (simp [*, errW_none, errW_some] <;> rfl), by repeat (first | (with_reducible first | exact HB.out | apply below_alloc | apply pw_below_drewN | apply below_drew1) | exact HB.out)⟩
            · replace c20 := Bool.eq_false_iff.mpr c20
              subst c20
              have H1 : (if t137 = true then ((leader_Parse.f kj14 t136).bind fun bt142 => (if bt142.2.2.1 = 0 then (if bt142.1 = a1 then (if bt142.2.1 = a2 then (if 5 ≤ 12 then (if 12 ≤ (t136.length : Int) then (if 12 ≤ (a0.size : Int) then (if (strOfNums ((t136.take 12).drop 5)).toList = (a0.extract 5 12).toList then (if 17 ≤ (t136.length : Int) then (if 17 ≤ (a0.size : Int) then (some ((strOfNums (t136.drop 17)).toList == (a0.extract 17 a0.size).toList)) else (none)) else (none)) else (some false)) else (none)) else (none)) else (none)) else (some false)) else (some false)) else (some false))) else (some ((t136.length : Int) == 0))) = some r := by rw [if_neg (show ¬ (false = true) by decide)] at H; exact H
              clear H
              have H := H1
              clear H1
              by_cases c21 : t137 = true
              · subst c21
                have H1 : ((leader_Parse.f kj14 t136).bind fun bt142 => (if bt142.2.2.1 = 0 then (if bt142.1 = a1 then (if bt142.2.1 = a2 then (if 5 ≤ 12 then (if 12 ≤ (t136.length : Int) then (if 12 ≤ (a0.size : Int) then (if (strOfNums ((t136.take 12).drop 5)).toList = (a0.extract 5 12).toList then (if 17 ≤ (t136.length : Int) then (if 17 ≤ (a0.size : Int) then (some ((strOfNums (t136.drop 17)).toList == (a0.extract 17 a0.size).toList)) else (none)) else (none)) else (some false)) else (none)) else (none)) else (none)) else (some false)) else (some false)) else (some false))) = some r := by rw [if_pos rfl] at H; exact H
                clear H
                have H := H1
                clear H1
                replace H := Option.bind_eq_some_iff.mp H
                obtain ⟨⟨t142, t143, t144, t145⟩, A220, H⟩ := H
                replace H : (if t144 = 0 then (if t142 = a1 then (if t143 = a2 then (if 5 ≤ 12 then (if 12 ≤ (t136.length : Int) then (if 12 ≤ (a0.size : Int) then (if (strOfNums ((t136.take 12).drop 5)).toList = (a0.extract 5 12).toList then (if 17 ≤ (t136.length : Int) then (if 17 ≤ (a0.size : Int) then (some ((strOfNums (t136.drop 17)).toList == (a0.extract 17 a0.size).toList)) else (none)) else (none)) else (some false)) else (none)) else (none)) else (none)) else (some false)) else (some false)) else (some false)) = some r := H
                have A22 := Aside0.mk A220
                clear A220
                by_cases c23 : t144 = 0
                · rw [if_pos c23] at H
                  have c23b0 : (t144 == 0) = true := beq_iff_eq.mpr c23
                  have c23b1 : (t144 != 0) = false := bne_eq_false_iff_eq.mpr c23
                  clear c23
                  by_cases c24 : t142 = a1
                  · rw [if_pos c24] at H
                    have c24b0 : (t142 == a1) = true := beq_iff_eq.mpr c24
                    have c24b1 : (t142 != a1) = false := bne_eq_false_iff_eq.mpr c24
                    clear c24
                    by_cases c25 : t143 = a2
                    · rw [if_pos c25] at H
                      have c25b0 : (t143 == a2) = true := beq_iff_eq.mpr c25
                      have c25b1 : (t143 != a2) = false := bne_eq_false_iff_eq.mpr c25
                      clear c25
                      by_cases c26 : 5 ≤ 12
                      · rw [if_pos c26] at H
                        have c26b0 := eq_true c26
                        have c26b1 : decide (5 ≤ 12) = true := decide_eq_true c26
                        clear c26
                        by_cases c27 : 12 ≤ (t136.length : Int)
                        · rw [if_pos c27] at H
                          have c27b0 := eq_true c27
                          have c27b1 : decide (12 ≤ (t136.length : Int)) = true := decide_eq_true c27
                          clear c27
                          obtain ⟨y147, hy147⟩ : ∃ y_ : List Int, y_ = ((t136.take 12).drop 5) := ⟨_, rfl⟩
                          replace H : (if 12 ≤ (a0.size : Int) then (if (strOfNums y147).toList = (a0.extract 5 12).toList then (if 17 ≤ (t136.length : Int) then (if 17 ≤ (a0.size : Int) then (some ((strOfNums (t136.drop 17)).toList == (a0.extract 17 a0.size).toList)) else (none)) else (none)) else (some false)) else (none)) = some r := by first | (rw [hy147]; with_reducible exact H) | (have H2_ := (Option.bind_some _ _).symm.trans H; rw [hy147]; with_reducible exact H2_) | (have H2_ := (Option.bind_some _ _).symm.trans H; with_reducible exact H2_) | with_reducible exact H | (rw [hy147]; exact H) | exact H
                          have Ny147 := Aside0.mk hy147
                          clear hy147
                          have c28b0 := eq_true (of_decide_eq_true (by first | (with_reducible assumption) | assumption) : 5 ≤ 12)
                          by_cases c29 : 12 ≤ (a0.size : Int)
                          · rw [if_pos c29] at H
                            have c29b0 := eq_true c29
                            have c29b1 : decide (12 ≤ (a0.size : Int)) = true := decide_eq_true c29
                            clear c29
                            by_cases c30 : (strOfNums y147).toList = (a0.extract 5 12).toList
                            · rw [if_pos c30] at H
                              have c30b0 : ((strOfNums y147).toList == (a0.extract 5 12).toList) = true := beq_iff_eq.mpr c30
                              have c30b1 : ((strOfNums y147).toList != (a0.extract 5 12).toList) = false := bne_eq_false_iff_eq.mpr c30
                              clear c30
                              by_cases c31 : 17 ≤ (t136.length : Int)
                              · rw [if_pos c31] at H
                                have c31b0 := eq_true c31
                                have c31b1 : decide (17 ≤ (t136.length : Int)) = true := decide_eq_true c31
                                clear c31
                                obtain ⟨y151, hy151⟩ : ∃ y_ : List Int, y_ = (t136.drop 17) := ⟨_, rfl⟩
                                replace H : (if 17 ≤ (a0.size : Int) then (some ((strOfNums y151).toList == (a0.extract 17 a0.size).toList)) else (none)) = some r := by first | (rw [hy151]; with_reducible exact H) | (have H2_ := (Option.bind_some _ _).symm.trans H; rw [hy151]; with_reducible exact H2_) | (have H2_ := (Option.bind_some _ _).symm.trans H; with_reducible exact H2_) | with_reducible exact H | (rw [hy151]; exact H) | exact H
                                have Ny151 := Aside0.mk hy151
                                clear hy151
                                by_cases c32 : 17 ≤ (a0.size : Int)
                                · rw [if_pos c32] at H
                                  have c32b0 := eq_true c32
                                  have c32b1 : decide (17 ≤ (a0.size : Int)) = true := decide_eq_true c32
                                  clear c32
                                  obtain rfl := Option.some.inj H
                                  obtain ⟨Ao33, co33, eo33⟩ := NR.R_slice HO_7.out
                                  subst eo33
                                  go_wp2_with (first | (go_at_call 8; (with_reducible refine (leader_Parse.calls kj14 _ _ t136 t142 t143 t144 t145 _ ?side1 ?side2 A22.out).mono ?_); (case side1 => repeat (first | exact (NR.R_reads' HO_7.out).2.2 | (with_reducible refine Kd.C_alloc ?_ _) | (with_reducible refine Kd.C_drewN ?_ _) | (with_reducible refine Kd.C_drew ?_))); (case side2 => exact (NR.R_reads' HO_7.out).2.1); rintro e w34 ⟨rfl, hb⟩; have n0_ := Aside0.mk (NR.R_below (by (with_reducible repeat (first | apply NR.R_alloc | apply NR.R_drewN | apply NR.R_drew)); exact HO_7.out) hb); have n1_ := Aside0.mk (below_step (by repeat (first | (with_reducible first | exact HB.out | apply below_alloc | apply pw_below_drewN | apply below_drew1) | exact HB.out)) hb); clear HO_7; clear HB; have HO_7 := n0_; have HB := n1_; clear n0_ n1_; (try clear hb); (try clear hb2); (try clear hk); (try clear hi)) | ((with_reducible refine gate_dst (N := 12) rfl ?_); refine box_event ?hg (N := 12) ?hd (cs := #[.int .i64 0, .int .i64 0]) (t := 26) ?hr ?_; (case hd => rfl); (case hg => rfl); (case hr => first | (go_simp; done) | (go_simp; rfl)); intro gb146 hg w35 hbox hb; have n0_ := Aside0.mk (NR.R_below (by (with_reducible repeat (first | apply NR.R_alloc | apply NR.R_drewN | apply NR.R_drew)); exact HO_7.out) hb); have n1_ := Aside0.mk (below_step (by repeat (first | (with_reducible first | exact HB.out | apply below_alloc | apply pw_below_drewN | apply below_drew1) | exact HB.out)) hb); have n2_ := Aside0.mk (hbox); have n3_ := Aside0.mk ((by rw [hg]; exact (below_size (by repeat (first | (with_reducible first | exact HB.out | apply below_alloc | apply pw_below_drewN | apply below_drew1) | exact HB.out))) : w.heap.size ≤ gb146)); have n4_ := Aside0.mk ((by rw [hg]; exact (below_size (by repeat (first | (with_reducible first | exact HB.out | apply below_alloc | apply pw_below_drewN | apply below_drew1) | exact HB.out))) : w.heap.size ≤ gb146)); clear HO_7; clear HB; have HO_7 := n0_; have HB := n1_; have BK146 := n2_; have GW146 := n3_; have GE146 := n4_; clear n0_ n1_ n2_ n3_ n4_; clear hb hbox hg; have hcz36_0 : w35.cell? ⟨gb146, 0, none⟩ = some (.int .i64 0) := (blk_cell BK146.out 0).trans rfl; have hcz36_1 : w35.cell? ⟨gb146, 1, none⟩ = some (.int .i64 0) := (blk_cell BK146.out 1).trans rfl; have hfz36_0 := blk_frozen BK146.out 0; have hfz36_1 := blk_frozen BK146.out 1) | ((with_reducible refine gate_store (t := 26) (p := 12) rfl ?_); (try (rw [drewN_self w35]; generalize hq_ : World.drewN w35 _ = w35; have n0_ := Aside0.mk (NR.R_at hq_ HO_7.out); have n1_ := Aside0.mk (blk_at hq_ BK146.out); have n2_ := Aside0.mk (below_at hq_ HB.out); clear hq_ HO_7 BK146 HB; have HO_7 := n0_; have BK146 := n1_; have HB := n2_; clear n0_ n1_ n2_)); refine store_event (t := 26) (p := 12) (v := ?vo_w37) (w1 := ((w35.setCell ⟨gb146, 0, none⟩ (.int .i64 t144)).setCell ⟨gb146, 1, none⟩ (.int .i64 t145))) ?hg ?ho ?hn ?hr ?_; (case ho => rfl); (case hg => rfl); (case hn => rfl); (case hr => first | (go_simp; done) | (go_simp; rfl)); intro w37 hw; have n0_ : Aside0 (NR 5 w37 w.heap.size (fun _ => True) (.slice Ao33 t136.length co33) t136) := ⟨(by rw [hw]; exact (by (with_reducible repeat (first | apply NR.R_alloc | apply NR.R_drewN | apply NR.R_drew)); exact NR.R_mono (NR.R_far (p := ⟨gb146, 1, none⟩) (NR.R_far (p := ⟨gb146, 0, none⟩) (NR.R_types HO_7.out BK146.out (by decide)) (fun _ hk => hk.2) (.int .i64 t144)) (fun _ hk => hk.2) (.int .i64 t145)) (fun _ hk => trivial)))⟩; have n1_ : Aside0 (w37.heap[gb146]? = some (.cells #[.int .i64 t144, .int .i64 t145] 26 (0, 0))) := ⟨(by rw [hw]; exact (by (with_reducible repeat (first | refine blk_drewN ?_ _ | refine blk_drew ?_ | refine blk_alloc ?_ _)); refine blk_put (cs := #[.int .i64 t144, .int .i64 0]) ?_ 1 _ rfl; (with_reducible repeat (first | refine blk_drewN ?_ _ | refine blk_drew ?_ | refine blk_alloc ?_ _)); refine blk_put (cs := #[.int .i64 0, .int .i64 0]) ?_ 0 _ rfl; (with_reducible repeat (first | refine blk_drewN ?_ _ | refine blk_drew ?_ | refine blk_alloc ?_ _)); exact BK146.out))⟩; have n2_ : Aside0 (Below w.heap.size w w37) := ⟨(by rw [hw]; exact (by repeat (first | (with_reducible first | exact HB.out | apply below_alloc | apply pw_below_drewN | apply below_drew1 | refine below_set ?_ GE146.out) | exact HB.out)))⟩; clear hw; clear HO_7; clear BK146; clear HB; have HO_7 := n0_; have BK146 := n1_; have HB := n2_; clear n0_ n1_ n2_; have hcz38_0 : w37.cell? ⟨gb146, 0, none⟩ = some (.int .i64 t144) := (blk_cell BK146.out 0).trans rfl; have hcz38_1 : w37.cell? ⟨gb146, 1, none⟩ = some (.int .i64 t145) := (blk_cell BK146.out 1).trans rfl; have hfz38_0 := blk_frozen BK146.out 0; have hfz38_1 := blk_frozen BK146.out 1; have q39 : (12 : Int) ≤ ((t136.length : Int) : Int) := of_decide_eq_true (by first | (with_reducible assumption) | assumption); obtain ⟨i039, hi039, _, hsz39, _⟩ := info_parts info5; have hroom39 : t136.length ≤ co33 := (NR.R_reads' HO_7.out).2.1; have hC39 : Kd.C (Kd.int .u8) _ Ao33 t136.length t136 := (NR.R_reads' HO_7.out).2.2; have ql39 : (5 : Int) ≤ (12 : Int) := (by omega); have hcut39 := cut_mid (P := Try.prog) 22 5 .i64 .i64 Try.underlying22 hi039 1 hsz39 Ao33 t136.length co33 5 12 (by omega) ql39 q39 hroom39; have hr39 := Kd.C_mid (lo := (5 : Int).toNat) (hi := (12 : Int).toNat) (c := co33) hC39 (by omega) (by omega) hroom39; obtain ⟨A39, hA39⟩ : ∃ A1, A1 = (if co33 = (5 : Int).toNat then Ao33 else (Ao33 : Option Addr).map (·.add ((5 : Int).toNat * 1))) := ⟨_, rfl⟩; obtain ⟨c39, hc39⟩ : ∃ c1, c1 = co33 - (5 : Int).toNat := ⟨_, rfl⟩; have hy39 : y147.length = (12 : Int).toNat - (5 : Int).toNat := (by rw [Ny147.out, List.length_drop, List.length_take] <;> omega); rw [show ((t136).take (12 : Int).toNat).drop (5 : Int).toNat = y147 from Ny147.out.symm] at hr39; replace hr39 : Kd.C (Kd.int .u8) _ A39 y147.length y147 := (by rw [hA39]; exact hr39); rw [← hy39, ← hA39, ← hc39] at hcut39; have HR150 := Aside0.mk hr39; have HC150 := Aside0.mk (show y147.length ≤ c39 from by rw [hy39, hc39]; exact Nat.sub_le_sub_right (Nat.le_trans (by omega) hroom39) _); clear hr39 hC39 hroom39 hi039 hsz39 hc39; have KY39 := Aside0.mk hy39; have KA39 := Aside0.mk hA39; clear hy39 hA39; have KL39 := Aside0.mk (show 12 ≤ t136.length from by omega); have KM39 := Aside0.mk (show 5 ≤ 12 from by omega); replace q39 := eq_true q39; have hcv40 := fun nq_ : Nat => Kd.C_string (P := Try.prog) (A := A39) (c := c39) Try.underlying22 Try.underlying5 Try.underlying9 (Kd.C_drewN HR150.out nq_); have q41 : (17 : Int) ≤ ((t136.length : Int) : Int) := of_decide_eq_true (by first | (with_reducible assumption) | assumption); obtain ⟨i041, hi041, _, hsz41, _⟩ := info_parts info5; have hroom41 : t136.length ≤ co33 := (NR.R_reads' HO_7.out).2.1; have hC41 : Kd.C (Kd.int .u8) _ Ao33 t136.length t136 := (NR.R_reads' HO_7.out).2.2; have hcut41 := cut_from (P := Try.prog) 22 5 .i64 Try.underlying22 hi041 1 hsz41 Ao33 t136.length co33 17 (by omega) q41; have hr41 := Kd.C_drop (m := (17 : Int).toNat) (c := co33) hC41 (by omega) hroom41; obtain ⟨A41, hA41⟩ : ∃ A1, A1 = (if co33 = (17 : Int).toNat then Ao33 else (Ao33 : Option Addr).map (·.add ((17 : Int).toNat * 1))) := ⟨_, rfl⟩; obtain ⟨c41, hc41⟩ : ∃ c1, c1 = co33 - (17 : Int).toNat := ⟨_, rfl⟩; have hy41 : y151.length = t136.length - (17 : Int).toNat := (by rw [Ny151.out, List.length_drop] <;> omega); rw [show (t136).drop (17 : Int).toNat = y151 from Ny151.out.symm] at hr41; replace hr41 : Kd.C (Kd.int .u8) _ A41 y151.length y151 := (by rw [hA41]; exact hr41); rw [← hy41, ← hA41, ← hc41] at hcut41; have HR154 := Aside0.mk hr41; have HC154 := Aside0.mk (show y151.length ≤ c41 from by rw [hy41, hc41]; exact Nat.sub_le_sub_right hroom41 _); clear hr41 hC41 hroom41 hi041 hsz41 hc41; have KY41 := Aside0.mk hy41; have KA41 := Aside0.mk hA41; clear hy41 hA41; have KL41 := Aside0.mk (show 17 ≤ t136.length from by omega); replace q41 := eq_true q41; have hcv42 := fun nq_ : Nat => Kd.C_string (P := Try.prog) (A := A41) (c := c41) Try.underlying22 Try.underlying5 Try.underlying9 (Kd.C_drewN HR154.out nq_)))
                                  repeat (go_quiet (first | (go_at_call 8; (with_reducible refine (leader_Parse.calls kj14 _ _ t136 t142 t143 t144 t145 _ ?side1 ?side2 A22.out).mono ?_); (case side1 => repeat (first | exact (NR.R_reads' HO_7.out).2.2 | (with_reducible refine Kd.C_alloc ?_ _) | (with_reducible refine Kd.C_drewN ?_ _) | (with_reducible refine Kd.C_drew ?_))); (case side2 => exact (NR.R_reads' HO_7.out).2.1); rintro e w34 ⟨rfl, hb⟩; have n0_ := Aside0.mk (NR.R_below (by (with_reducible repeat (first | apply NR.R_alloc | apply NR.R_drewN | apply NR.R_drew)); exact HO_7.out) hb); have n1_ := Aside0.mk (below_step (by repeat (first | (with_reducible first | exact HB.out | apply below_alloc | apply pw_below_drewN | apply below_drew1) | exact HB.out)) hb); clear HO_7; clear HB; have HO_7 := n0_; have HB := n1_; clear n0_ n1_; (try clear hb); (try clear hb2); (try clear hk); (try clear hi)) | ((with_reducible refine gate_dst (N := 12) rfl ?_); refine box_event ?hg (N := 12) ?hd (cs := #[.int .i64 0, .int .i64 0]) (t := 26) ?hr ?_; (case hd => rfl); (case hg => rfl); (case hr => first | (go_simp; done) | (go_simp; rfl)); intro gb146 hg w35 hbox hb; have n0_ := Aside0.mk (NR.R_below (by (with_reducible repeat (first | apply NR.R_alloc | apply NR.R_drewN | apply NR.R_drew)); exact HO_7.out) hb); have n1_ := Aside0.mk (below_step (by repeat (first | (with_reducible first | exact HB.out | apply below_alloc | apply pw_below_drewN | apply below_drew1) | exact HB.out)) hb); have n2_ := Aside0.mk (hbox); have n3_ := Aside0.mk ((by rw [hg]; exact (below_size (by repeat (first | (with_reducible first | exact HB.out | apply below_alloc | apply pw_below_drewN | apply below_drew1) | exact HB.out))) : w.heap.size ≤ gb146)); have n4_ := Aside0.mk ((by rw [hg]; exact (below_size (by repeat (first | (with_reducible first | exact HB.out | apply below_alloc | apply pw_below_drewN | apply below_drew1) | exact HB.out))) : w.heap.size ≤ gb146)); clear HO_7; clear HB; have HO_7 := n0_; have HB := n1_; have BK146 := n2_; have GW146 := n3_; have GE146 := n4_; clear n0_ n1_ n2_ n3_ n4_; clear hb hbox hg; have hcz36_0 : w35.cell? ⟨gb146, 0, none⟩ = some (.int .i64 0) := (blk_cell BK146.out 0).trans rfl; have hcz36_1 : w35.cell? ⟨gb146, 1, none⟩ = some (.int .i64 0) := (blk_cell BK146.out 1).trans rfl; have hfz36_0 := blk_frozen BK146.out 0; have hfz36_1 := blk_frozen BK146.out 1) | ((with_reducible refine gate_store (t := 26) (p := 12) rfl ?_); (try (rw [drewN_self w35]; generalize hq_ : World.drewN w35 _ = w35; have n0_ := Aside0.mk (NR.R_at hq_ HO_7.out); have n1_ := Aside0.mk (blk_at hq_ BK146.out); have n2_ := Aside0.mk (below_at hq_ HB.out); clear hq_ HO_7 BK146 HB; have HO_7 := n0_; have BK146 := n1_; have HB := n2_; clear n0_ n1_ n2_)); refine store_event (t := 26) (p := 12) (v := ?vo_w37) (w1 := ((w35.setCell ⟨gb146, 0, none⟩ (.int .i64 t144)).setCell ⟨gb146, 1, none⟩ (.int .i64 t145))) ?hg ?ho ?hn ?hr ?_; (case ho => rfl); (case hg => rfl); (case hn => rfl); (case hr => first | (go_simp; done) | (go_simp; rfl)); intro w37 hw; have n0_ : Aside0 (NR 5 w37 w.heap.size (fun _ => True) (.slice Ao33 t136.length co33) t136) := ⟨(by rw [hw]; exact (by (with_reducible repeat (first | apply NR.R_alloc | apply NR.R_drewN | apply NR.R_drew)); exact NR.R_mono (NR.R_far (p := ⟨gb146, 1, none⟩) (NR.R_far (p := ⟨gb146, 0, none⟩) (NR.R_types HO_7.out BK146.out (by decide)) (fun _ hk => hk.2) (.int .i64 t144)) (fun _ hk => hk.2) (.int .i64 t145)) (fun _ hk => trivial)))⟩; have n1_ : Aside0 (w37.heap[gb146]? = some (.cells #[.int .i64 t144, .int .i64 t145] 26 (0, 0))) := ⟨(by rw [hw]; exact (by (with_reducible repeat (first | refine blk_drewN ?_ _ | refine blk_drew ?_ | refine blk_alloc ?_ _)); refine blk_put (cs := #[.int .i64 t144, .int .i64 0]) ?_ 1 _ rfl; (with_reducible repeat (first | refine blk_drewN ?_ _ | refine blk_drew ?_ | refine blk_alloc ?_ _)); refine blk_put (cs := #[.int .i64 0, .int .i64 0]) ?_ 0 _ rfl; (with_reducible repeat (first | refine blk_drewN ?_ _ | refine blk_drew ?_ | refine blk_alloc ?_ _)); exact BK146.out))⟩; have n2_ : Aside0 (Below w.heap.size w w37) := ⟨(by rw [hw]; exact (by repeat (first | (with_reducible first | exact HB.out | apply below_alloc | apply pw_below_drewN | apply below_drew1 | refine below_set ?_ GE146.out) | exact HB.out)))⟩; clear hw; clear HO_7; clear BK146; clear HB; have HO_7 := n0_; have BK146 := n1_; have HB := n2_; clear n0_ n1_ n2_; have hcz38_0 : w37.cell? ⟨gb146, 0, none⟩ = some (.int .i64 t144) := (blk_cell BK146.out 0).trans rfl; have hcz38_1 : w37.cell? ⟨gb146, 1, none⟩ = some (.int .i64 t145) := (blk_cell BK146.out 1).trans rfl; have hfz38_0 := blk_frozen BK146.out 0; have hfz38_1 := blk_frozen BK146.out 1; have q39 : (12 : Int) ≤ ((t136.length : Int) : Int) := of_decide_eq_true (by first | (with_reducible assumption) | assumption); obtain ⟨i039, hi039, _, hsz39, _⟩ := info_parts info5; have hroom39 : t136.length ≤ co33 := (NR.R_reads' HO_7.out).2.1; have hC39 : Kd.C (Kd.int .u8) _ Ao33 t136.length t136 := (NR.R_reads' HO_7.out).2.2; have ql39 : (5 : Int) ≤ (12 : Int) := (by omega); have hcut39 := cut_mid (P := Try.prog) 22 5 .i64 .i64 Try.underlying22 hi039 1 hsz39 Ao33 t136.length co33 5 12 (by omega) ql39 q39 hroom39; have hr39 := Kd.C_mid (lo := (5 : Int).toNat) (hi := (12 : Int).toNat) (c := co33) hC39 (by omega) (by omega) hroom39; obtain ⟨A39, hA39⟩ : ∃ A1, A1 = (if co33 = (5 : Int).toNat then Ao33 else (Ao33 : Option Addr).map (·.add ((5 : Int).toNat * 1))) := ⟨_, rfl⟩; obtain ⟨c39, hc39⟩ : ∃ c1, c1 = co33 - (5 : Int).toNat := ⟨_, rfl⟩; have hy39 : y147.length = (12 : Int).toNat - (5 : Int).toNat := (by rw [Ny147.out, List.length_drop, List.length_take] <;> omega); rw [show ((t136).take (12 : Int).toNat).drop (5 : Int).toNat = y147 from Ny147.out.symm] at hr39; replace hr39 : Kd.C (Kd.int .u8) _ A39 y147.length y147 := (by rw [hA39]; exact hr39); rw [← hy39, ← hA39, ← hc39] at hcut39; have HR150 := Aside0.mk hr39; have HC150 := Aside0.mk (show y147.length ≤ c39 from by rw [hy39, hc39]; exact Nat.sub_le_sub_right (Nat.le_trans (by omega) hroom39) _); clear hr39 hC39 hroom39 hi039 hsz39 hc39; have KY39 := Aside0.mk hy39; have KA39 := Aside0.mk hA39; clear hy39 hA39; have KL39 := Aside0.mk (show 12 ≤ t136.length from by omega); have KM39 := Aside0.mk (show 5 ≤ 12 from by omega); replace q39 := eq_true q39; have hcv40 := fun nq_ : Nat => Kd.C_string (P := Try.prog) (A := A39) (c := c39) Try.underlying22 Try.underlying5 Try.underlying9 (Kd.C_drewN HR150.out nq_); have q41 : (17 : Int) ≤ ((t136.length : Int) : Int) := of_decide_eq_true (by first | (with_reducible assumption) | assumption); obtain ⟨i041, hi041, _, hsz41, _⟩ := info_parts info5; have hroom41 : t136.length ≤ co33 := (NR.R_reads' HO_7.out).2.1; have hC41 : Kd.C (Kd.int .u8) _ Ao33 t136.length t136 := (NR.R_reads' HO_7.out).2.2; have hcut41 := cut_from (P := Try.prog) 22 5 .i64 Try.underlying22 hi041 1 hsz41 Ao33 t136.length co33 17 (by omega) q41; have hr41 := Kd.C_drop (m := (17 : Int).toNat) (c := co33) hC41 (by omega) hroom41; obtain ⟨A41, hA41⟩ : ∃ A1, A1 = (if co33 = (17 : Int).toNat then Ao33 else (Ao33 : Option Addr).map (·.add ((17 : Int).toNat * 1))) := ⟨_, rfl⟩; obtain ⟨c41, hc41⟩ : ∃ c1, c1 = co33 - (17 : Int).toNat := ⟨_, rfl⟩; have hy41 : y151.length = t136.length - (17 : Int).toNat := (by rw [Ny151.out, List.length_drop] <;> omega); rw [show (t136).drop (17 : Int).toNat = y151 from Ny151.out.symm] at hr41; replace hr41 : Kd.C (Kd.int .u8) _ A41 y151.length y151 := (by rw [hA41]; exact hr41); rw [← hy41, ← hA41, ← hc41] at hcut41; have HR154 := Aside0.mk hr41; have HC154 := Aside0.mk (show y151.length ≤ c41 from by rw [hy41, hc41]; exact Nat.sub_le_sub_right hroom41 _); clear hr41 hC41 hroom41 hi041 hsz41 hc41; have KY41 := Aside0.mk hy41; have KA41 := Aside0.mk hA41; clear hy41 hA41; have KL41 := Aside0.mk (show 17 ≤ t136.length from by omega); replace q41 := eq_true q41; have hcv42 := fun nq_ : Nat => Kd.C_string (P := Try.prog) (A := A41) (c := c41) Try.underlying22 Try.underlying5 Try.underlying9 (Kd.C_drewN HR154.out nq_))); try go_wp2_with (first | (go_at_call 8; (with_reducible refine (leader_Parse.calls kj14 _ _ t136 t142 t143 t144 t145 _ ?side1 ?side2 A22.out).mono ?_); (case side1 => repeat (first | exact (NR.R_reads' HO_7.out).2.2 | (with_reducible refine Kd.C_alloc ?_ _) | (with_reducible refine Kd.C_drewN ?_ _) | (with_reducible refine Kd.C_drew ?_))); (case side2 => exact (NR.R_reads' HO_7.out).2.1); rintro e w34 ⟨rfl, hb⟩; have n0_ := Aside0.mk (NR.R_below (by (with_reducible repeat (first | apply NR.R_alloc | apply NR.R_drewN | apply NR.R_drew)); exact HO_7.out) hb); have n1_ := Aside0.mk (below_step (by repeat (first | (with_reducible first | exact HB.out | apply below_alloc | apply pw_below_drewN | apply below_drew1) | exact HB.out)) hb); clear HO_7; clear HB; have HO_7 := n0_; have HB := n1_; clear n0_ n1_; (try clear hb); (try clear hb2); (try clear hk); (try clear hi)) | ((with_reducible refine gate_dst (N := 12) rfl ?_); refine box_event ?hg (N := 12) ?hd (cs := #[.int .i64 0, .int .i64 0]) (t := 26) ?hr ?_; (case hd => rfl); (case hg => rfl); (case hr => first | (go_simp; done) | (go_simp; rfl)); intro gb146 hg w35 hbox hb; have n0_ := Aside0.mk (NR.R_below (by (with_reducible repeat (first | apply NR.R_alloc | apply NR.R_drewN | apply NR.R_drew)); exact HO_7.out) hb); have n1_ := Aside0.mk (below_step (by repeat (first | (with_reducible first | exact HB.out | apply below_alloc | apply pw_below_drewN | apply below_drew1) | exact HB.out)) hb); have n2_ := Aside0.mk (hbox); have n3_ := Aside0.mk ((by rw [hg]; exact (below_size (by repeat (first | (with_reducible first | exact HB.out | apply below_alloc | apply pw_below_drewN | apply below_drew1) | exact HB.out))) : w.heap.size ≤ gb146)); have n4_ := Aside0.mk ((by rw [hg]; exact (below_size (by repeat (first | (with_reducible first | exact HB.out | apply below_alloc | apply pw_below_drewN | apply below_drew1) | exact HB.out))) : w.heap.size ≤ gb146)); clear HO_7; clear HB; have HO_7 := n0_; have HB := n1_; have BK146 := n2_; have GW146 := n3_; have GE146 := n4_; clear n0_ n1_ n2_ n3_ n4_; clear hb hbox hg; have hcz36_0 : w35.cell? ⟨gb146, 0, none⟩ = some (.int .i64 0) := (blk_cell BK146.out 0).trans rfl; have hcz36_1 : w35.cell? ⟨gb146, 1, none⟩ = some (.int .i64 0) := (blk_cell BK146.out 1).trans rfl; have hfz36_0 := blk_frozen BK146.out 0; have hfz36_1 := blk_frozen BK146.out 1) | ((with_reducible refine gate_store (t := 26) (p := 12) rfl ?_); (try (rw [drewN_self w35]; generalize hq_ : World.drewN w35 _ = w35; have n0_ := Aside0.mk (NR.R_at hq_ HO_7.out); have n1_ := Aside0.mk (blk_at hq_ BK146.out); have n2_ := Aside0.mk (below_at hq_ HB.out); clear hq_ HO_7 BK146 HB; have HO_7 := n0_; have BK146 := n1_; have HB := n2_; clear n0_ n1_ n2_)); refine store_event (t := 26) (p := 12) (v := ?vo_w37) (w1 := ((w35.setCell ⟨gb146, 0, none⟩ (.int .i64 t144)).setCell ⟨gb146, 1, none⟩ (.int .i64 t145))) ?hg ?ho ?hn ?hr ?_; (case ho => rfl); (case hg => rfl); (case hn => rfl); (case hr => first | (go_simp; done) | (go_simp; rfl)); intro w37 hw; have n0_ : Aside0 (NR 5 w37 w.heap.size (fun _ => True) (.slice Ao33 t136.length co33) t136) := ⟨(by rw [hw]; exact (by (with_reducible repeat (first | apply NR.R_alloc | apply NR.R_drewN | apply NR.R_drew)); exact NR.R_mono (NR.R_far (p := ⟨gb146, 1, none⟩) (NR.R_far (p := ⟨gb146, 0, none⟩) (NR.R_types HO_7.out BK146.out (by decide)) (fun _ hk => hk.2) (.int .i64 t144)) (fun _ hk => hk.2) (.int .i64 t145)) (fun _ hk => trivial)))⟩; have n1_ : Aside0 (w37.heap[gb146]? = some (.cells #[.int .i64 t144, .int .i64 t145] 26 (0, 0))) := ⟨(by rw [hw]; exact (by (with_reducible repeat (first | refine blk_drewN ?_ _ | refine blk_drew ?_ | refine blk_alloc ?_ _)); refine blk_put (cs := #[.int .i64 t144, .int .i64 0]) ?_ 1 _ rfl; (with_reducible repeat (first | refine blk_drewN ?_ _ | refine blk_drew ?_ | refine blk_alloc ?_ _)); refine blk_put (cs := #[.int .i64 0, .int .i64 0]) ?_ 0 _ rfl; (with_reducible repeat (first | refine blk_drewN ?_ _ | refine blk_drew ?_ | refine blk_alloc ?_ _)); exact BK146.out))⟩; have n2_ : Aside0 (Below w.heap.size w w37) := ⟨(by rw [hw]; exact (by repeat (first | (with_reducible first | exact HB.out | apply below_alloc | apply pw_below_drewN | apply below_drew1 | refine below_set ?_ GE146.out) | exact HB.out)))⟩; clear hw; clear HO_7; clear BK146; clear HB; have HO_7 := n0_; have BK146 := n1_; have HB := n2_; clear n0_ n1_ n2_; have hcz38_0 : w37.cell? ⟨gb146, 0, none⟩ = some (.int .i64 t144) := (blk_cell BK146.out 0).trans rfl; have hcz38_1 : w37.cell? ⟨gb146, 1, none⟩ = some (.int .i64 t145) := (blk_cell BK146.out 1).trans rfl; have hfz38_0 := blk_frozen BK146.out 0; have hfz38_1 := blk_frozen BK146.out 1; have q39 : (12 : Int) ≤ ((t136.length : Int) : Int) := of_decide_eq_true (by first | (with_reducible assumption) | assumption); obtain ⟨i039, hi039, _, hsz39, _⟩ := info_parts info5; have hroom39 : t136.length ≤ co33 := (NR.R_reads' HO_7.out).2.1; have hC39 : Kd.C (Kd.int .u8) _ Ao33 t136.length t136 := (NR.R_reads' HO_7.out).2.2; have ql39 : (5 : Int) ≤ (12 : Int) := (by omega); have hcut39 := cut_mid (P := Try.prog) 22 5 .i64 .i64 Try.underlying22 hi039 1 hsz39 Ao33 t136.length co33 5 12 (by omega) ql39 q39 hroom39; have hr39 := Kd.C_mid (lo := (5 : Int).toNat) (hi := (12 : Int).toNat) (c := co33) hC39 (by omega) (by omega) hroom39; obtain ⟨A39, hA39⟩ : ∃ A1, A1 = (if co33 = (5 : Int).toNat then Ao33 else (Ao33 : Option Addr).map (·.add ((5 : Int).toNat * 1))) := ⟨_, rfl⟩; obtain ⟨c39, hc39⟩ : ∃ c1, c1 = co33 - (5 : Int).toNat := ⟨_, rfl⟩; have hy39 : y147.length = (12 : Int).toNat - (5 : Int).toNat := (by rw [Ny147.out, List.length_drop, List.length_take] <;> omega); rw [show ((t136).take (12 : Int).toNat).drop (5 : Int).toNat = y147 from Ny147.out.symm] at hr39; replace hr39 : Kd.C (Kd.int .u8) _ A39 y147.length y147 := (by rw [hA39]; exact hr39); rw [← hy39, ← hA39, ← hc39] at hcut39; have HR150 := Aside0.mk hr39; have HC150 := Aside0.mk (show y147.length ≤ c39 from by rw [hy39, hc39]; exact Nat.sub_le_sub_right (Nat.le_trans (by omega) hroom39) _); clear hr39 hC39 hroom39 hi039 hsz39 hc39; have KY39 := Aside0.mk hy39; have KA39 := Aside0.mk hA39; clear hy39 hA39; have KL39 := Aside0.mk (show 12 ≤ t136.length from by omega); have KM39 := Aside0.mk (show 5 ≤ 12 from by omega); replace q39 := eq_true q39; have hcv40 := fun nq_ : Nat => Kd.C_string (P := Try.prog) (A := A39) (c := c39) Try.underlying22 Try.underlying5 Try.underlying9 (Kd.C_drewN HR150.out nq_); have q41 : (17 : Int) ≤ ((t136.length : Int) : Int) := of_decide_eq_true (by first | (with_reducible assumption) | assumption); obtain ⟨i041, hi041, _, hsz41, _⟩ := info_parts info5; have hroom41 : t136.length ≤ co33 := (NR.R_reads' HO_7.out).2.1; have hC41 : Kd.C (Kd.int .u8) _ Ao33 t136.length t136 := (NR.R_reads' HO_7.out).2.2; have hcut41 := cut_from (P := Try.prog) 22 5 .i64 Try.underlying22 hi041 1 hsz41 Ao33 t136.length co33 17 (by omega) q41; have hr41 := Kd.C_drop (m := (17 : Int).toNat) (c := co33) hC41 (by omega) hroom41; obtain ⟨A41, hA41⟩ : ∃ A1, A1 = (if co33 = (17 : Int).toNat then Ao33 else (Ao33 : Option Addr).map (·.add ((17 : Int).toNat * 1))) := ⟨_, rfl⟩; obtain ⟨c41, hc41⟩ : ∃ c1, c1 = co33 - (17 : Int).toNat := ⟨_, rfl⟩; have hy41 : y151.length = t136.length - (17 : Int).toNat := (by rw [Ny151.out, List.length_drop] <;> omega); rw [show (t136).drop (17 : Int).toNat = y151 from Ny151.out.symm] at hr41; replace hr41 : Kd.C (Kd.int .u8) _ A41 y151.length y151 := (by rw [hA41]; exact hr41); rw [← hy41, ← hA41, ← hc41] at hcut41; have HR154 := Aside0.mk hr41; have HC154 := Aside0.mk (show y151.length ≤ c41 from by rw [hy41, hc41]; exact Nat.sub_le_sub_right hroom41 _); clear hr41 hC41 hroom41 hi041 hsz41 hc41; have KY41 := Aside0.mk hy41; have KA41 := Aside0.mk hA41; clear hy41 hA41; have KL41 := Aside0.mk (show 17 ≤ t136.length from by omega); replace q41 := eq_true q41; have hcv42 := fun nq_ : Nat => Kd.C_string (P := Try.prog) (A := A41) (c := c41) Try.underlying22 Try.underlying5 Try.underlying9 (Kd.C_drewN HR154.out nq_))))
                                  go_ret
                                  exact ⟨by first | rfl | (simp [errW_none, errW_some] <;> rfl) | (simp [*, errW_none, errW_some] <;> rfl), by repeat (first | (with_reducible first | exact HB.out | apply below_alloc | apply pw_below_drewN | apply below_drew1 | refine below_set ?_ GE146.out) | exact HB.out)⟩
                                · rw [if_neg c32] at H
                                  exact absurd H (by simp)
                              · rw [if_neg c31] at H
                                exact absurd H (by simp)
                            · rw [if_neg c30] at H
                              have c30b0 : ((strOfNums y147).toList == (a0.extract 5 12).toList) = false := beq_eq_false_iff_ne.mpr c30
                              have c30b1 : ((strOfNums y147).toList != (a0.extract 5 12).toList) = true := bne_iff_ne.mpr c30
                              obtain rfl := Option.some.inj H
                              obtain ⟨Ao43, co43, eo43⟩ := NR.R_slice HO_7.out
                              subst eo43
                              go_wp2_with (first | (go_at_call 8; (with_reducible refine (leader_Parse.calls kj14 _ _ t136 t142 t143 t144 t145 _ ?side1 ?side2 A22.out).mono ?_); (case side1 => repeat (first | exact (NR.R_reads' HO_7.out).2.2 | (with_reducible refine Kd.C_alloc ?_ _) | (with_reducible refine Kd.C_drewN ?_ _) | (with_reducible refine Kd.C_drew ?_))); (case side2 => exact (NR.R_reads' HO_7.out).2.1); rintro e w44 ⟨rfl, hb⟩; have n0_ := Aside0.mk (NR.R_below (by (with_reducible repeat (first | apply NR.R_alloc | apply NR.R_drewN | apply NR.R_drew)); exact HO_7.out) hb); have n1_ := Aside0.mk (below_step (by repeat (first | (with_reducible first | exact HB.out | apply below_alloc | apply pw_below_drewN | apply below_drew1) | exact HB.out)) hb); clear HO_7; clear HB; have HO_7 := n0_; have HB := n1_; clear n0_ n1_; (try clear hb); (try clear hb2); (try clear hk); (try clear hi)) | ((with_reducible refine gate_dst (N := 12) rfl ?_); refine box_event ?hg (N := 12) ?hd (cs := #[.int .i64 0, .int .i64 0]) (t := 26) ?hr ?_; (case hd => rfl); (case hg => rfl); (case hr => first | (go_simp; done) | (go_simp; rfl)); intro gb146 hg w45 hbox hb; have n0_ := Aside0.mk (NR.R_below (by (with_reducible repeat (first | apply NR.R_alloc | apply NR.R_drewN | apply NR.R_drew)); exact HO_7.out) hb); have n1_ := Aside0.mk (below_step (by repeat (first | (with_reducible first | exact HB.out | apply below_alloc | apply pw_below_drewN | apply below_drew1) | exact HB.out)) hb); have n2_ := Aside0.mk (hbox); have n3_ := Aside0.mk ((by rw [hg]; exact (below_size (by repeat (first | (with_reducible first | exact HB.out | apply below_alloc | apply pw_below_drewN | apply below_drew1) | exact HB.out))) : w.heap.size ≤ gb146)); have n4_ := Aside0.mk ((by rw [hg]; exact (below_size (by repeat (first | (with_reducible first | exact HB.out | apply below_alloc | apply pw_below_drewN | apply below_drew1) | exact HB.out))) : w.heap.size ≤ gb146)); clear HO_7; clear HB; have HO_7 := n0_; have HB := n1_; have BK146 := n2_; have GW146 := n3_; have GE146 := n4_; clear n0_ n1_ n2_ n3_ n4_; clear hb hbox hg; have hcz46_0 : w45.cell? ⟨gb146, 0, none⟩ = some (.int .i64 0) := (blk_cell BK146.out 0).trans rfl; have hcz46_1 : w45.cell? ⟨gb146, 1, none⟩ = some (.int .i64 0) := (blk_cell BK146.out 1).trans rfl; have hfz46_0 := blk_frozen BK146.out 0; have hfz46_1 := blk_frozen BK146.out 1) | ((with_reducible refine gate_store (t := 26) (p := 12) rfl ?_); (try (rw [drewN_self w45]; generalize hq_ : World.drewN w45 _ = w45; have n0_ := Aside0.mk (NR.R_at hq_ HO_7.out); have n1_ := Aside0.mk (blk_at hq_ BK146.out); have n2_ := Aside0.mk (below_at hq_ HB.out); clear hq_ HO_7 BK146 HB; have HO_7 := n0_; have BK146 := n1_; have HB := n2_; clear n0_ n1_ n2_)); refine store_event (t := 26) (p := 12) (v := ?vo_w47) (w1 := ((w45.setCell ⟨gb146, 0, none⟩ (.int .i64 t144)).setCell ⟨gb146, 1, none⟩ (.int .i64 t145))) ?hg ?ho ?hn ?hr ?_; (case ho => rfl); (case hg => rfl); (case hn => rfl); (case hr => first | (go_simp; done) | (go_simp; rfl)); intro w47 hw; have n0_ : Aside0 (NR 5 w47 w.heap.size (fun _ => True) (.slice Ao43 t136.length co43) t136) := ⟨(by rw [hw]; exact (by (with_reducible repeat (first | apply NR.R_alloc | apply NR.R_drewN | apply NR.R_drew)); exact NR.R_mono (NR.R_far (p := ⟨gb146, 1, none⟩) (NR.R_far (p := ⟨gb146, 0, none⟩) (NR.R_types HO_7.out BK146.out (by decide)) (fun _ hk => hk.2) (.int .i64 t144)) (fun _ hk => hk.2) (.int .i64 t145)) (fun _ hk => trivial)))⟩; have n1_ : Aside0 (w47.heap[gb146]? = some (.cells #[.int .i64 t144, .int .i64 t145] 26 (0, 0))) := ⟨(by rw [hw]; exact (by (with_reducible repeat (first | refine blk_drewN ?_ _ | refine blk_drew ?_ | refine blk_alloc ?_ _)); refine blk_put (cs := #[.int .i64 t144, .int .i64 0]) ?_ 1 _ rfl; (with_reducible repeat (first | refine blk_drewN ?_ _ | refine blk_drew ?_ | refine blk_alloc ?_ _)); refine blk_put (cs := #[.int .i64 0, .int .i64 0]) ?_ 0 _ rfl; (with_reducible repeat (first | refine blk_drewN ?_ _ | refine blk_drew ?_ | refine blk_alloc ?_ _)); exact BK146.out))⟩; have n2_ : Aside0 (Below w.heap.size w w47) := ⟨(by rw [hw]; exact (by repeat (first | (with_reducible first | exact HB.out | apply below_alloc | apply pw_below_drewN | apply below_drew1 | refine below_set ?_ GE146.out) | exact HB.out)))⟩; clear hw; clear HO_7; clear BK146; clear HB; have HO_7 := n0_; have BK146 := n1_; have HB := n2_; clear n0_ n1_ n2_; have hcz48_0 : w47.cell? ⟨gb146, 0, none⟩ = some (.int .i64 t144) := (blk_cell BK146.out 0).trans rfl; have hcz48_1 : w47.cell? ⟨gb146, 1, none⟩ = some (.int .i64 t145) := (blk_cell BK146.out 1).trans rfl; have hfz48_0 := blk_frozen BK146.out 0; have hfz48_1 := blk_frozen BK146.out 1; have q49 : (12 : Int) ≤ ((t136.length : Int) : Int) := of_decide_eq_true (by first | (with_reducible assumption) | assumption); obtain ⟨i049, hi049, _, hsz49, _⟩ := info_parts info5; have hroom49 : t136.length ≤ co43 := (NR.R_reads' HO_7.out).2.1; have hC49 : Kd.C (Kd.int .u8) _ Ao43 t136.length t136 := (NR.R_reads' HO_7.out).2.2; have ql49 : (5 : Int) ≤ (12 : Int) := (by omega); have hcut49 := cut_mid (P := Try.prog) 22 5 .i64 .i64 Try.underlying22 hi049 1 hsz49 Ao43 t136.length co43 5 12 (by omega) ql49 q49 hroom49; have hr49 := Kd.C_mid (lo := (5 : Int).toNat) (hi := (12 : Int).toNat) (c := co43) hC49 (by omega) (by omega) hroom49; obtain ⟨A49, hA49⟩ : ∃ A1, A1 = (if co43 = (5 : Int).toNat then Ao43 else (Ao43 : Option Addr).map (·.add ((5 : Int).toNat * 1))) := ⟨_, rfl⟩; obtain ⟨c49, hc49⟩ : ∃ c1, c1 = co43 - (5 : Int).toNat := ⟨_, rfl⟩; have hy49 : y147.length = (12 : Int).toNat - (5 : Int).toNat := (by rw [Ny147.out, List.length_drop, List.length_take] <;> omega); rw [show ((t136).take (12 : Int).toNat).drop (5 : Int).toNat = y147 from Ny147.out.symm] at hr49; replace hr49 : Kd.C (Kd.int .u8) _ A49 y147.length y147 := (by rw [hA49]; exact hr49); rw [← hy49, ← hA49, ← hc49] at hcut49; have HR150 := Aside0.mk hr49; have HC150 := Aside0.mk (show y147.length ≤ c49 from by rw [hy49, hc49]; exact Nat.sub_le_sub_right (Nat.le_trans (by omega) hroom49) _); clear hr49 hC49 hroom49 hi049 hsz49 hc49; have KY49 := Aside0.mk hy49; have KA49 := Aside0.mk hA49; clear hy49 hA49; have KL49 := Aside0.mk (show 12 ≤ t136.length from by omega); have KM49 := Aside0.mk (show 5 ≤ 12 from by omega); replace q49 := eq_true q49; have hcv50 := fun nq_ : Nat => Kd.C_string (P := Try.prog) (A := A49) (c := c49) Try.underlying22 Try.underlying5 Try.underlying9 (Kd.C_drewN HR150.out nq_)))
                              repeat (go_quiet (first | (go_at_call 8; (with_reducible refine (leader_Parse.calls kj14 _ _ t136 t142 t143 t144 t145 _ ?side1 ?side2 A22.out).mono ?_); (case side1 => repeat (first | exact (NR.R_reads' HO_7.out).2.2 | (with_reducible refine Kd.C_alloc ?_ _) | (with_reducible refine Kd.C_drewN ?_ _) | (with_reducible refine Kd.C_drew ?_))); (case side2 => exact (NR.R_reads' HO_7.out).2.1); rintro e w44 ⟨rfl, hb⟩; have n0_ := Aside0.mk (NR.R_below (by (with_reducible repeat (first | apply NR.R_alloc | apply NR.R_drewN | apply NR.R_drew)); exact HO_7.out) hb); have n1_ := Aside0.mk (below_step (by repeat (first | (with_reducible first | exact HB.out | apply below_alloc | apply pw_below_drewN | apply below_drew1) | exact HB.out)) hb); clear HO_7; clear HB; have HO_7 := n0_; have HB := n1_; clear n0_ n1_; (try clear hb); (try clear hb2); (try clear hk); (try clear hi)) | ((with_reducible refine gate_dst (N := 12) rfl ?_); refine box_event ?hg (N := 12) ?hd (cs := #[.int .i64 0, .int .i64 0]) (t := 26) ?hr ?_; (case hd => rfl); (case hg => rfl); (case hr => first | (go_simp; done) | (go_simp; rfl)); intro gb146 hg w45 hbox hb; have n0_ := Aside0.mk (NR.R_below (by (with_reducible repeat (first | apply NR.R_alloc | apply NR.R_drewN | apply NR.R_drew)); exact HO_7.out) hb); have n1_ := Aside0.mk (below_step (by repeat (first | (with_reducible first | exact HB.out | apply below_alloc | apply pw_below_drewN | apply below_drew1) | exact HB.out)) hb); have n2_ := Aside0.mk (hbox); have n3_ := Aside0.mk ((by rw [hg]; exact (below_size (by repeat (first | (with_reducible first | exact HB.out | apply below_alloc | apply pw_below_drewN | apply below_drew1) | exact HB.out))) : w.heap.size ≤ gb146)); have n4_ := Aside0.mk ((by rw [hg]; exact (below_size (by repeat (first | (with_reducible first | exact HB.out | apply below_alloc | apply pw_below_drewN | apply below_drew1) | exact HB.out))) : w.heap.size ≤ gb146)); clear HO_7; clear HB; have HO_7 := n0_; have HB := n1_; have BK146 := n2_; have GW146 := n3_; have GE146 := n4_; clear n0_ n1_ n2_ n3_ n4_; clear hb hbox hg; have hcz46_0 : w45.cell? ⟨gb146, 0, none⟩ = some (.int .i64 0) := (blk_cell BK146.out 0).trans rfl; have hcz46_1 : w45.cell? ⟨gb146, 1, none⟩ = some (.int .i64 0) := (blk_cell BK146.out 1).trans rfl; have hfz46_0 := blk_frozen BK146.out 0; have hfz46_1 := blk_frozen BK146.out 1) | ((with_reducible refine gate_store (t := 26) (p := 12) rfl ?_); (try (rw [drewN_self w45]; generalize hq_ : World.drewN w45 _ = w45; have n0_ := Aside0.mk (NR.R_at hq_ HO_7.out); have n1_ := Aside0.mk (blk_at hq_ BK146.out); have n2_ := Aside0.mk (below_at hq_ HB.out); clear hq_ HO_7 BK146 HB; have HO_7 := n0_; have BK146 := n1_; have HB := n2_; clear n0_ n1_ n2_)); refine store_event (t := 26) (p := 12) (v := ?vo_w47) (w1 := ((w45.setCell ⟨gb146, 0, none⟩ (.int .i64 t144)).setCell ⟨gb146, 1, none⟩ (.int .i64 t145))) ?hg ?ho ?hn ?hr ?_; (case ho => rfl); (case hg => rfl); (case hn => rfl); (case hr => first | (go_simp; done) | (go_simp; rfl)); intro w47 hw; have n0_ : Aside0 (NR 5 w47 w.heap.size (fun _ => True) (.slice Ao43 t136.length co43) t136) := ⟨(by rw [hw]; exact (by (with_reducible repeat (first | apply NR.R_alloc | apply NR.R_drewN | apply NR.R_drew)); exact NR.R_mono (NR.R_far (p := ⟨gb146, 1, none⟩) (NR.R_far (p := ⟨gb146, 0, none⟩) (NR.R_types HO_7.out BK146.out (by decide)) (fun _ hk => hk.2) (.int .i64 t144)) (fun _ hk => hk.2) (.int .i64 t145)) (fun _ hk => trivial)))⟩; have n1_ : Aside0 (w47.heap[gb146]? = some (.cells #[.int .i64 t144, .int .i64 t145] 26 (0, 0))) := ⟨(by rw [hw]; exact (by (with_reducible repeat (first | refine blk_drewN ?_ _ | refine blk_drew ?_ | refine blk_alloc ?_ _)); refine blk_put (cs := #[.int .i64 t144, .int .i64 0]) ?_ 1 _ rfl; (with_reducible repeat (first | refine blk_drewN ?_ _ | refine blk_drew ?_ | refine blk_alloc ?_ _)); refine blk_put (cs := #[.int .i64 0, .int .i64 0]) ?_ 0 _ rfl; (with_reducible repeat (first | refine blk_drewN ?_ _ | refine blk_drew ?_ | refine blk_alloc ?_ _)); exact BK146.out))⟩; have n2_ : Aside0 (Below w.heap.size w w47) := ⟨(by rw [hw]; exact (by repeat (first | (with_reducible first | exact HB.out | apply below_alloc | apply pw_below_drewN | apply below_drew1 | refine below_set ?_ GE146.out) | exact HB.out)))⟩; clear hw; clear HO_7; clear BK146; clear HB; have HO_7 := n0_; have BK146 := n1_; have HB := n2_; clear n0_ n1_ n2_; have hcz48_0 : w47.cell? ⟨gb146, 0, none⟩ = some (.int .i64 t144) := (blk_cell BK146.out 0).trans rfl; have hcz48_1 : w47.cell? ⟨gb146, 1, none⟩ = some (.int .i64 t145) := (blk_cell BK146.out 1).trans rfl; have hfz48_0 := blk_frozen BK146.out 0; have hfz48_1 := blk_frozen BK146.out 1; have q49 : (12 : Int) ≤ ((t136.length : Int) : Int) := of_decide_eq_true (by first | (with_reducible assumption) | assumption); obtain ⟨i049, hi049, _, hsz49, _⟩ := info_parts info5; have hroom49 : t136.length ≤ co43 := (NR.R_reads' HO_7.out).2.1; have hC49 : Kd.C (Kd.int .u8) _ Ao43 t136.length t136 := (NR.R_reads' HO_7.out).2.2; have ql49 : (5 : Int) ≤ (12 : Int) := (by omega); have hcut49 := cut_mid (P := Try.prog) 22 5 .i64 .i64 Try.underlying22 hi049 1 hsz49 Ao43 t136.length co43 5 12 (by omega) ql49 q49 hroom49; have hr49 := Kd.C_mid (lo := (5 : Int).toNat) (hi := (12 : Int).toNat) (c := co43) hC49 (by omega) (by omega) hroom49; obtain ⟨A49, hA49⟩ : ∃ A1, A1 = (if co43 = (5 : Int).toNat then Ao43 else (Ao43 : Option Addr).map (·.add ((5 : Int).toNat * 1))) := ⟨_, rfl⟩; obtain ⟨c49, hc49⟩ : ∃ c1, c1 = co43 - (5 : Int).toNat := ⟨_, rfl⟩; have hy49 : y147.length = (12 : Int).toNat - (5 : Int).toNat := (by rw [Ny147.out, List.length_drop, List.length_take] <;> omega); rw [show ((t136).take (12 : Int).toNat).drop (5 : Int).toNat = y147 from Ny147.out.symm] at hr49; replace hr49 : Kd.C (Kd.int .u8) _ A49 y147.length y147 := (by rw [hA49]; exact hr49); rw [← hy49, ← hA49, ← hc49] at hcut49; have HR150 := Aside0.mk hr49; have HC150 := Aside0.mk (show y147.length ≤ c49 from by rw [hy49, hc49]; exact Nat.sub_le_sub_right (Nat.le_trans (by omega) hroom49) _); clear hr49 hC49 hroom49 hi049 hsz49 hc49; have KY49 := Aside0.mk hy49; have KA49 := Aside0.mk hA49; clear hy49 hA49; have KL49 := Aside0.mk (show 12 ≤ t136.length from by omega); have KM49 := Aside0.mk (show 5 ≤ 12 from by omega); replace q49 := eq_true q49; have hcv50 := fun nq_ : Nat => Kd.C_string (P := Try.prog) (A := A49) (c := c49) Try.underlying22 Try.underlying5 Try.underlying9 (Kd.C_drewN HR150.out nq_))); try go_wp2_with (first | (go_at_call 8; (with_reducible refine (leader_Parse.calls kj14 _ _ t136 t142 t143 t144 t145 _ ?side1 ?side2 A22.out).mono ?_); (case side1 => repeat (first | exact (NR.R_reads' HO_7.out).2.2 | (with_reducible refine Kd.C_alloc ?_ _) | (with_reducible refine Kd.C_drewN ?_ _) | (with_reducible refine Kd.C_drew ?_))); (case side2 => exact (NR.R_reads' HO_7.out).2.1); rintro e w44 ⟨rfl, hb⟩; have n0_ := Aside0.mk (NR.R_below (by (with_reducible repeat (first | apply NR.R_alloc | apply NR.R_drewN | apply NR.R_drew)); exact HO_7.out) hb); have n1_ := Aside0.mk (below_step (by repeat (first | (with_reducible first | exact HB.out | apply below_alloc | apply pw_below_drewN | apply below_drew1) | exact HB.out)) hb); clear HO_7; clear HB; have HO_7 := n0_; have HB := n1_; clear n0_ n1_; (try clear hb); (try clear hb2); (try clear hk); (try clear hi)) | ((with_reducible refine gate_dst (N := 12) rfl ?_); refine box_event ?hg (N := 12) ?hd (cs := #[.int .i64 0, .int .i64 0]) (t := 26) ?hr ?_; (case hd => rfl); (case hg => rfl); (case hr => first | (go_simp; done) | (go_simp; rfl)); intro gb146 hg w45 hbox hb; have n0_ := Aside0.mk (NR.R_below (by (with_reducible repeat (first | apply NR.R_alloc | apply NR.R_drewN | apply NR.R_drew)); exact HO_7.out) hb); have n1_ := Aside0.mk (below_step (by repeat (first | (with_reducible first | exact HB.out | apply below_alloc | apply pw_below_drewN | apply below_drew1) | exact HB.out)) hb); have n2_ := Aside0.mk (hbox); have n3_ := Aside0.mk ((by rw [hg]; exact (below_size (by repeat (first | (with_reducible first | exact HB.out | apply below_alloc | apply pw_below_drewN | apply below_drew1) | exact HB.out))) : w.heap.size ≤ gb146)); have n4_ := Aside0.mk ((by rw [hg]; exact (below_size (by repeat (first | (with_reducible first | exact HB.out | apply below_alloc | apply pw_below_drewN | apply below_drew1) | exact HB.out))) : w.heap.size ≤ gb146)); clear HO_7; clear HB; have HO_7 := n0_; have HB := n1_; have BK146 := n2_; have GW146 := n3_; have GE146 := n4_; clear n0_ n1_ n2_ n3_ n4_; clear hb hbox hg; have hcz46_0 : w45.cell? ⟨gb146, 0, none⟩ = some (.int .i64 0) := (blk_cell BK146.out 0).trans rfl; have hcz46_1 : w45.cell? ⟨gb146, 1, none⟩ = some (.int .i64 0) := (blk_cell BK146.out 1).trans rfl; have hfz46_0 := blk_frozen BK146.out 0; have hfz46_1 := blk_frozen BK146.out 1) | ((with_reducible refine gate_store (t := 26) (p := 12) rfl ?_); (try (rw [drewN_self w45]; generalize hq_ : World.drewN w45 _ = w45; have n0_ := Aside0.mk (NR.R_at hq_ HO_7.out); have n1_ := Aside0.mk (blk_at hq_ BK146.out); have n2_ := Aside0.mk (below_at hq_ HB.out); clear hq_ HO_7 BK146 HB; have HO_7 := n0_; have BK146 := n1_; have HB := n2_; clear n0_ n1_ n2_)); refine store_event (t := 26) (p := 12) (v := ?vo_w47) (w1 := ((w45.setCell ⟨gb146, 0, none⟩ (.int .i64 t144)).setCell ⟨gb146, 1, none⟩ (.int .i64 t145))) ?hg ?ho ?hn ?hr ?_; (case ho => rfl); (case hg => rfl); (case hn => rfl); (case hr => first | (go_simp; done) | (go_simp; rfl)); intro w47 hw; have n0_ : Aside0 (NR 5 w47 w.heap.size (fun _ => True) (.slice Ao43 t136.length co43) t136) := ⟨(by rw [hw]; exact (by (with_reducible repeat (first | apply NR.R_alloc | apply NR.R_drewN | apply NR.R_drew)); exact NR.R_mono (NR.R_far (p := ⟨gb146, 1, none⟩) (NR.R_far (p := ⟨gb146, 0, none⟩) (NR.R_types HO_7.out BK146.out (by decide)) (fun _ hk => hk.2) (.int .i64 t144)) (fun _ hk => hk.2) (.int .i64 t145)) (fun _ hk => trivial)))⟩; have n1_ : Aside0 (w47.heap[gb146]? = some (.cells #[.int .i64 t144, .int .i64 t145] 26 (0, 0))) := ⟨(by rw [hw]; exact (by (with_reducible repeat (first | refine blk_drewN ?_ _ | refine blk_drew ?_ | refine blk_alloc ?_ _)); refine blk_put (cs := #[.int .i64 t144, .int .i64 0]) ?_ 1 _ rfl; (with_reducible repeat (first | refine blk_drewN ?_ _ | refine blk_drew ?_ | refine blk_alloc ?_ _)); refine blk_put (cs := #[.int .i64 0, .int .i64 0]) ?_ 0 _ rfl; (with_reducible repeat (first | refine blk_drewN ?_ _ | refine blk_drew ?_ | refine blk_alloc ?_ _)); exact BK146.out))⟩; have n2_ : Aside0 (Below w.heap.size w w47) := ⟨(by rw [hw]; exact (by repeat (first | (with_reducible first | exact HB.out | apply below_alloc | apply pw_below_drewN | apply below_drew1 | refine below_set ?_ GE146.out) | exact HB.out)))⟩; clear hw; clear HO_7; clear BK146; clear HB; have HO_7 := n0_; have BK146 := n1_; have HB := n2_; clear n0_ n1_ n2_; have hcz48_0 : w47.cell? ⟨gb146, 0, none⟩ = some (.int .i64 t144) := (blk_cell BK146.out 0).trans rfl; have hcz48_1 : w47.cell? ⟨gb146, 1, none⟩ = some (.int .i64 t145) := (blk_cell BK146.out 1).trans rfl; have hfz48_0 := blk_frozen BK146.out 0; have hfz48_1 := blk_frozen BK146.out 1; have q49 : (12 : Int) ≤ ((t136.length : Int) : Int) := of_decide_eq_true (by first | (with_reducible assumption) | assumption); obtain ⟨i049, hi049, _, hsz49, _⟩ := info_parts info5; have hroom49 : t136.length ≤ co43 := (NR.R_reads' HO_7.out).2.1; have hC49 : Kd.C (Kd.int .u8) _ Ao43 t136.length t136 := (NR.R_reads' HO_7.out).2.2; have ql49 : (5 : Int) ≤ (12 : Int) := (by omega); have hcut49 := cut_mid (P := Try.prog) 22 5 .i64 .i64 Try.underlying22 hi049 1 hsz49 Ao43 t136.length co43 5 12 (by omega) ql49 q49 hroom49; have hr49 := Kd.C_mid (lo := (5 : Int).toNat) (hi := (12 : Int).toNat) (c := co43) hC49 (by omega) (by omega) hroom49; obtain ⟨A49, hA49⟩ : ∃ A1, A1 = (if co43 = (5 : Int).toNat then Ao43 else (Ao43 : Option Addr).map (·.add ((5 : Int).toNat * 1))) := ⟨_, rfl⟩; obtain ⟨c49, hc49⟩ : ∃ c1, c1 = co43 - (5 : Int).toNat := ⟨_, rfl⟩; have hy49 : y147.length = (12 : Int).toNat - (5 : Int).toNat := (by rw [Ny147.out, List.length_drop, List.length_take] <;> omega); rw [show ((t136).take (12 : Int).toNat).drop (5 : Int).toNat = y147 from Ny147.out.symm] at hr49; replace hr49 : Kd.C (Kd.int .u8) _ A49 y147.length y147 := (by rw [hA49]; exact hr49); rw [← hy49, ← hA49, ← hc49] at hcut49; have HR150 := Aside0.mk hr49; have HC150 := Aside0.mk (show y147.length ≤ c49 from by rw [hy49, hc49]; exact Nat.sub_le_sub_right (Nat.le_trans (by omega) hroom49) _); clear hr49 hC49 hroom49 hi049 hsz49 hc49; have KY49 := Aside0.mk hy49; have KA49 := Aside0.mk hA49; clear hy49 hA49; have KL49 := Aside0.mk (show 12 ≤ t136.length from by omega); have KM49 := Aside0.mk (show 5 ≤ 12 from by omega); replace q49 := eq_true q49; have hcv50 := fun nq_ : Nat => Kd.C_string (P := Try.prog) (A := A49) (c := c49) Try.underlying22 Try.underlying5 Try.underlying9 (Kd.C_drewN HR150.out nq_))))
                              go_ret
                              exact ⟨by first | rfl | (simp [errW_none, errW_some] <;> rfl) | (simp [*, errW_none, errW_some] <;> rfl), by repeat (first | (with_reducible first | exact HB.out | apply below_alloc | apply pw_below_drewN | apply below_drew1 | refine below_set ?_ GE146.out) | exact HB.out)⟩
                          · rw [if_neg c29] at H
                            exact absurd H (by simp)
                        · rw [if_neg c27] at H
                          exact absurd H (by simp)
                      · rw [if_neg c26] at H
                        exact absurd H (by simp)
                    · rw [if_neg c25] at H
                      have c25b0 : (t143 == a2) = false := beq_eq_false_iff_ne.mpr c25
                      have c25b1 : (t143 != a2) = true := bne_iff_ne.mpr c25
                      obtain rfl := Option.some.inj H
                      obtain ⟨Ao51, co51, eo51⟩ := NR.R_slice HO_7.out
                      subst eo51
                      go_wp2_with (first | (go_at_call 8; (with_reducible refine (leader_Parse.calls kj14 _ _ t136 t142 t143 t144 t145 _ ?side1 ?side2 A22.out).mono ?_); (case side1 => repeat (first | exact (NR.R_reads' HO_7.out).2.2 | (with_reducible refine Kd.C_alloc ?_ _) | (with_reducible refine Kd.C_drewN ?_ _) | (with_reducible refine Kd.C_drew ?_))); (case side2 => exact (NR.R_reads' HO_7.out).2.1); rintro e w52 ⟨rfl, hb⟩; have n0_ := Aside0.mk (NR.R_below (by (with_reducible repeat (first | apply NR.R_alloc | apply NR.R_drewN | apply NR.R_drew)); exact HO_7.out) hb); have n1_ := Aside0.mk (below_step (by repeat (first | (with_reducible first | exact HB.out | apply below_alloc | apply pw_below_drewN | apply below_drew1) | exact HB.out)) hb); clear HO_7; clear HB; have HO_7 := n0_; have HB := n1_; clear n0_ n1_; (try clear hb); (try clear hb2); (try clear hk); (try clear hi)) | ((with_reducible refine gate_dst (N := 12) rfl ?_); refine box_event ?hg (N := 12) ?hd (cs := #[.int .i64 0, .int .i64 0]) (t := 26) ?hr ?_; (case hd => rfl); (case hg => rfl); (case hr => first | (go_simp; done) | (go_simp; rfl)); intro gb146 hg w53 hbox hb; have n0_ := Aside0.mk (NR.R_below (by (with_reducible repeat (first | apply NR.R_alloc | apply NR.R_drewN | apply NR.R_drew)); exact HO_7.out) hb); have n1_ := Aside0.mk (below_step (by repeat (first | (with_reducible first | exact HB.out | apply below_alloc | apply pw_below_drewN | apply below_drew1) | exact HB.out)) hb); have n2_ := Aside0.mk (hbox); have n3_ := Aside0.mk ((by rw [hg]; exact (below_size (by repeat (first | (with_reducible first | exact HB.out | apply below_alloc | apply pw_below_drewN | apply below_drew1) | exact HB.out))) : w.heap.size ≤ gb146)); have n4_ := Aside0.mk ((by rw [hg]; exact (below_size (by repeat (first | (with_reducible first | exact HB.out | apply below_alloc | apply pw_below_drewN | apply below_drew1) | exact HB.out))) : w.heap.size ≤ gb146)); clear HO_7; clear HB; have HO_7 := n0_; have HB := n1_; have BK146 := n2_; have GW146 := n3_; have GE146 := n4_; clear n0_ n1_ n2_ n3_ n4_; clear hb hbox hg; have hcz54_0 : w53.cell? ⟨gb146, 0, none⟩ = some (.int .i64 0) := (blk_cell BK146.out 0).trans rfl; have hcz54_1 : w53.cell? ⟨gb146, 1, none⟩ = some (.int .i64 0) := (blk_cell BK146.out 1).trans rfl; have hfz54_0 := blk_frozen BK146.out 0; have hfz54_1 := blk_frozen BK146.out 1))
                      repeat (go_quiet (first | (go_at_call 8; (with_reducible refine (leader_Parse.calls kj14 _ _ t136 t142 t143 t144 t145 _ ?side1 ?side2 A22.out).mono ?_); (case side1 => repeat (first | exact (NR.R_reads' HO_7.out).2.2 | (with_reducible refine Kd.C_alloc ?_ _) | (with_reducible refine Kd.C_drewN ?_ _) | (with_reducible refine Kd.C_drew ?_))); (case side2 => exact (NR.R_reads' HO_7.out).2.1); rintro e w52 ⟨rfl, hb⟩; have n0_ := Aside0.mk (NR.R_below (by (with_reducible repeat (first | apply NR.R_alloc | apply NR.R_drewN | apply NR.R_drew)); exact HO_7.out) hb); have n1_ := Aside0.mk (below_step (by repeat (first | (with_reducible first | exact HB.out | apply below_alloc | apply pw_below_drewN | apply below_drew1) | exact HB.out)) hb); clear HO_7; clear HB; have HO_7 := n0_; have HB := n1_; clear n0_ n1_; (try clear hb); (try clear hb2); (try clear hk); (try clear hi)) | ((with_reducible refine gate_dst (N := 12) rfl ?_); refine box_event ?hg (N := 12) ?hd (cs := #[.int .i64 0, .int .i64 0]) (t := 26) ?hr ?_; (case hd => rfl); (case hg => rfl); (case hr => first | (go_simp; done) | (go_simp; rfl)); intro gb146 hg w53 hbox hb; have n0_ := Aside0.mk (NR.R_below (by (with_reducible repeat (first | apply NR.R_alloc | apply NR.R_drewN | apply NR.R_drew)); exact HO_7.out) hb); have n1_ := Aside0.mk (below_step (by repeat (first | (with_reducible first | exact HB.out | apply below_alloc | apply pw_below_drewN | apply below_drew1) | exact HB.out)) hb); have n2_ := Aside0.mk (hbox); have n3_ := Aside0.mk ((by rw [hg]; exact (below_size (by repeat (first | (with_reducible first | exact HB.out | apply below_alloc | apply pw_below_drewN | apply below_drew1) | exact HB.out))) : w.heap.size ≤ gb146)); have n4_ := Aside0.mk ((by rw [hg]; exact (below_size (by repeat (first | (with_reducible first | exact HB.out | apply below_alloc | apply pw_below_drewN | apply below_drew1) | exact HB.out))) : w.heap.size ≤ gb146)); clear HO_7; clear HB; have HO_7 := n0_; have HB := n1_; have BK146 := n2_; have GW146 := n3_; have GE146 := n4_; clear n0_ n1_ n2_ n3_ n4_; clear hb hbox hg; have hcz54_0 : w53.cell? ⟨gb146, 0, none⟩ = some (.int .i64 0) := (blk_cell BK146.out 0).trans rfl; have hcz54_1 : w53.cell? ⟨gb146, 1, none⟩ = some (.int .i64 0) := (blk_cell BK146.out 1).trans rfl; have hfz54_0 := blk_frozen BK146.out 0; have hfz54_1 := blk_frozen BK146.out 1)); try go_wp2_with (first | (go_at_call 8; (with_reducible refine (leader_Parse.calls kj14 _ _ t136 t142 t143 t144 t145 _ ?side1 ?side2 A22.out).mono ?_); (case side1 => repeat (first | exact (NR.R_reads' HO_7.out).2.2 | (with_reducible refine Kd.C_alloc ?_ _) | (with_reducible refine Kd.C_drewN ?_ _) | (with_reducible refine Kd.C_drew ?_))); (case side2 => exact (NR.R_reads' HO_7.out).2.1); rintro e w52 ⟨rfl, hb⟩; have n0_ := Aside0.mk (NR.R_below (by (with_reducible repeat (first | apply NR.R_alloc | apply NR.R_drewN | apply NR.R_drew)); exact HO_7.out) hb); have n1_ := Aside0.mk (below_step (by repeat (first | (with_reducible first | exact HB.out | apply below_alloc | apply pw_below_drewN | apply below_drew1) | exact HB.out)) hb); clear HO_7; clear HB; have HO_7 := n0_; have HB := n1_; clear n0_ n1_; (try clear hb); (try clear hb2); (try clear hk); (try clear hi)) | ((with_reducible refine gate_dst (N := 12) rfl ?_); refine box_event ?hg (N := 12) ?hd (cs := #[.int .i64 0, .int .i64 0]) (t := 26) ?hr ?_; (case hd => rfl); (case hg => rfl); (case hr => first | (go_simp; done) | (go_simp; rfl)); intro gb146 hg w53 hbox hb; have n0_ := Aside0.mk (NR.R_below (by (with_reducible repeat (first | apply NR.R_alloc | apply NR.R_drewN | apply NR.R_drew)); exact HO_7.out) hb); have n1_ := Aside0.mk (below_step (by repeat (first | (with_reducible first | exact HB.out | apply below_alloc | apply pw_below_drewN | apply below_drew1) | exact HB.out)) hb); have n2_ := Aside0.mk (hbox); have n3_ := Aside0.mk ((by rw [hg]; exact (below_size (by repeat (first | (with_reducible first | exact HB.out | apply below_alloc | apply pw_below_drewN | apply below_drew1) | exact HB.out))) : w.heap.size ≤ gb146)); have n4_ := Aside0.mk ((by rw [hg]; exact (below_size (by repeat (first | (with_reducible first | exact HB.out | apply below_alloc | apply pw_below_drewN | apply below_drew1) | exact HB.out))) : w.heap.size ≤ gb146)); clear HO_7; clear HB; have HO_7 := n0_; have HB := n1_; have BK146 := n2_; have GW146 := n3_; have GE146 := n4_; clear n0_ n1_ n2_ n3_ n4_; clear hb hbox hg; have hcz54_0 : w53.cell? ⟨gb146, 0, none⟩ = some (.int .i64 0) := (blk_cell BK146.out 0).trans rfl; have hcz54_1 : w53.cell? ⟨gb146, 1, none⟩ = some (.int .i64 0) := (blk_cell BK146.out 1).trans rfl; have hfz54_0 := blk_frozen BK146.out 0; have hfz54_1 := blk_frozen BK146.out 1)))
                      go_ret
                      exact ⟨by first | rfl | (simp [errW_none, errW_some] <;> rfl) | (simp [*, errW_none, errW_some] <;> rfl), by repeat (first | (with_reducible first | exact HB.out | apply below_alloc | apply pw_below_drewN | apply below_drew1 | refine below_set ?_ GE146.out) | exact HB.out)⟩
                  · rw [if_neg c24] at H
                    have c24b0 : (t142 == a1) = false := beq_eq_false_iff_ne.mpr c24
                    have c24b1 : (t142 != a1) = true := bne_iff_ne.mpr c24
                    obtain rfl := Option.some.inj H
                    obtain ⟨Ao55, co55, eo55⟩ := NR.R_slice HO_7.out
                    subst eo55
                    go_wp2_with (first | (go_at_call 8; (with_reducible refine (leader_Parse.calls kj14 _ _ t136 t142 t143 t144 t145 _ ?side1 ?side2 A22.out).mono ?_); (case side1 => repeat (first | exact (NR.R_reads' HO_7.out).2.2 | (with_reducible refine Kd.C_alloc ?_ _) | (with_reducible refine Kd.C_drewN ?_ _) | (with_reducible refine Kd.C_drew ?_))); (case side2 => exact (NR.R_reads' HO_7.out).2.1); rintro e w56 ⟨rfl, hb⟩; have n0_ := Aside0.mk (NR.R_below (by (with_reducible repeat (first | apply NR.R_alloc | apply NR.R_drewN | apply NR.R_drew)); exact HO_7.out) hb); have n1_ := Aside0.mk (below_step (by repeat (first | (with_reducible first | exact HB.out | apply below_alloc | apply pw_below_drewN | apply below_drew1) | exact HB.out)) hb); clear HO_7; clear HB; have HO_7 := n0_; have HB := n1_; clear n0_ n1_; (try clear hb); (try clear hb2); (try clear hk); (try clear hi)) | ((with_reducible refine gate_dst (N := 12) rfl ?_); refine box_event ?hg (N := 12) ?hd (cs := #[.int .i64 0, .int .i64 0]) (t := 26) ?hr ?_; (case hd => rfl); (case hg => rfl); (case hr => first | (go_simp; done) | (go_simp; rfl)); intro gb146 hg w57 hbox hb; have n0_ := Aside0.mk (NR.R_below (by (with_reducible repeat (first | apply NR.R_alloc | apply NR.R_drewN | apply NR.R_drew)); exact HO_7.out) hb); have n1_ := Aside0.mk (below_step (by repeat (first | (with_reducible first | exact HB.out | apply below_alloc | apply pw_below_drewN | apply below_drew1) | exact HB.out)) hb); have n2_ := Aside0.mk (hbox); have n3_ := Aside0.mk ((by rw [hg]; exact (below_size (by repeat (first | (with_reducible first | exact HB.out | apply below_alloc | apply pw_below_drewN | apply below_drew1) | exact HB.out))) : w.heap.size ≤ gb146)); have n4_ := Aside0.mk ((by rw [hg]; exact (below_size (by repeat (first | (with_reducible first | exact HB.out | apply below_alloc | apply pw_below_drewN | apply below_drew1) | exact HB.out))) : w.heap.size ≤ gb146)); clear HO_7; clear HB; have HO_7 := n0_; have HB := n1_; have BK146 := n2_; have GW146 := n3_; have GE146 := n4_; clear n0_ n1_ n2_ n3_ n4_; clear hb hbox hg; have hcz58_0 : w57.cell? ⟨gb146, 0, none⟩ = some (.int .i64 0) := (blk_cell BK146.out 0).trans rfl; have hcz58_1 : w57.cell? ⟨gb146, 1, none⟩ = some (.int .i64 0) := (blk_cell BK146.out 1).trans rfl; have hfz58_0 := blk_frozen BK146.out 0; have hfz58_1 := blk_frozen BK146.out 1))
                    repeat (go_quiet (first | (go_at_call 8; (with_reducible refine (leader_Parse.calls kj14 _ _ t136 t142 t143 t144 t145 _ ?side1 ?side2 A22.out).mono ?_); (case side1 => repeat (first | exact (NR.R_reads' HO_7.out).2.2 | (with_reducible refine Kd.C_alloc ?_ _) | (with_reducible refine Kd.C_drewN ?_ _) | (with_reducible refine Kd.C_drew ?_))); (case side2 => exact (NR.R_reads' HO_7.out).2.1); rintro e w56 ⟨rfl, hb⟩; have n0_ := Aside0.mk (NR.R_below (by (with_reducible repeat (first | apply NR.R_alloc | apply NR.R_drewN | apply NR.R_drew)); exact HO_7.out) hb); have n1_ := Aside0.mk (below_step (by repeat (first | (with_reducible first | exact HB.out | apply below_alloc | apply pw_below_drewN | apply below_drew1) | exact HB.out)) hb); clear HO_7; clear HB; have HO_7 := n0_; have HB := n1_; clear n0_ n1_; (try clear hb); (try clear hb2); (try clear hk); (try clear hi)) | ((with_reducible refine gate_dst (N := 12) rfl ?_); refine box_event ?hg (N := 12) ?hd (cs := #[.int .i64 0, .int .i64 0]) (t := 26) ?hr ?_; (case hd => rfl); (case hg => rfl); (case hr => first | (go_simp; done) | (go_simp; rfl)); intro gb146 hg w57 hbox hb; have n0_ := Aside0.mk (NR.R_below (by (with_reducible repeat (first | apply NR.R_alloc | apply NR.R_drewN | apply NR.R_drew)); exact HO_7.out) hb); have n1_ := Aside0.mk (below_step (by repeat (first | (with_reducible first | exact HB.out | apply below_alloc | apply pw_below_drewN | apply below_drew1) | exact HB.out)) hb); have n2_ := Aside0.mk (hbox); have n3_ := Aside0.mk ((by rw [hg]; exact (below_size (by repeat (first | (with_reducible first | exact HB.out | apply below_alloc | apply pw_below_drewN | apply below_drew1) | exact HB.out))) : w.heap.size ≤ gb146)); have n4_ := Aside0.mk ((by rw [hg]; exact (below_size (by repeat (first | (with_reducible first | exact HB.out | apply below_alloc | apply pw_below_drewN | apply below_drew1) | exact HB.out))) : w.heap.size ≤ gb146)); clear HO_7; clear HB; have HO_7 := n0_; have HB := n1_; have BK146 := n2_; have GW146 := n3_; have GE146 := n4_; clear n0_ n1_ n2_ n3_ n4_; clear hb hbox hg; have hcz58_0 : w57.cell? ⟨gb146, 0, none⟩ = some (.int .i64 0) := (blk_cell BK146.out 0).trans rfl; have hcz58_1 : w57.cell? ⟨gb146, 1, none⟩ = some (.int .i64 0) := (blk_cell BK146.out 1).trans rfl; have hfz58_0 := blk_frozen BK146.out 0; have hfz58_1 := blk_frozen BK146.out 1)); try go_wp2_with (first | (go_at_call 8; (with_reducible refine (leader_Parse.calls kj14 _ _ t136 t142 t143 t144 t145 _ ?side1 ?side2 A22.out).mono ?_); (case side1 => repeat (first | exact (NR.R_reads' HO_7.out).2.2 | (with_reducible refine Kd.C_alloc ?_ _) | (with_reducible refine Kd.C_drewN ?_ _) | (with_reducible refine Kd.C_drew ?_))); (case side2 => exact (NR.R_reads' HO_7.out).2.1); rintro e w56 ⟨rfl, hb⟩; have n0_ := Aside0.mk (NR.R_below (by (with_reducible repeat (first | apply NR.R_alloc | apply NR.R_drewN | apply NR.R_drew)); exact HO_7.out) hb); have n1_ := Aside0.mk (below_step (by repeat (first | (with_reducible first | exact HB.out | apply below_alloc | apply pw_below_drewN | apply below_drew1) | exact HB.out)) hb); clear HO_7; clear HB; have HO_7 := n0_; have HB := n1_; clear n0_ n1_; (try clear hb); (try clear hb2); (try clear hk); (try clear hi)) | ((with_reducible refine gate_dst (N := 12) rfl ?_); refine box_event ?hg (N := 12) ?hd (cs := #[.int .i64 0, .int .i64 0]) (t := 26) ?hr ?_; (case hd => rfl); (case hg => rfl); (case hr => first | (go_simp; done) | (go_simp; rfl)); intro gb146 hg w57 hbox hb; have n0_ := Aside0.mk (NR.R_below (by (with_reducible repeat (first | apply NR.R_alloc | apply NR.R_drewN | apply NR.R_drew)); exact HO_7.out) hb); have n1_ := Aside0.mk (below_step (by repeat (first | (with_reducible first | exact HB.out | apply below_alloc | apply pw_below_drewN | apply below_drew1) | exact HB.out)) hb); have n2_ := Aside0.mk (hbox); have n3_ := Aside0.mk ((by rw [hg]; exact (below_size (by repeat (first | (with_reducible first | exact HB.out | apply below_alloc | apply pw_below_drewN | apply below_drew1) | exact HB.out))) : w.heap.size ≤ gb146)); have n4_ := Aside0.mk ((by rw [hg]; exact (below_size (by repeat (first | (with_reducible first | exact HB.out | apply below_alloc | apply pw_below_drewN | apply below_drew1) | exact HB.out))) : w.heap.size ≤ gb146)); clear HO_7; clear HB; have HO_7 := n0_; have HB := n1_; have BK146 := n2_; have GW146 := n3_; have GE146 := n4_; clear n0_ n1_ n2_ n3_ n4_; clear hb hbox hg; have hcz58_0 : w57.cell? ⟨gb146, 0, none⟩ = some (.int .i64 0) := (blk_cell BK146.out 0).trans rfl; have hcz58_1 : w57.cell? ⟨gb146, 1, none⟩ = some (.int .i64 0) := (blk_cell BK146.out 1).trans rfl; have hfz58_0 := blk_frozen BK146.out 0; have hfz58_1 := blk_frozen BK146.out 1)))
                    go_ret
                    exact ⟨by first | rfl | (simp [errW_none, errW_some] <;> rfl) | (simp [*, errW_none, errW_some] <;> rfl), by repeat (first | (with_reducible first | exact HB.out | apply below_alloc | apply pw_below_drewN | apply below_drew1 | refine below_set ?_ GE146.out) | exact HB.out)⟩
                · rw [if_neg c23] at H
                  have c23b0 : (t144 == 0) = false := beq_eq_false_iff_ne.mpr c23
                  have c23b1 : (t144 != 0) = true := bne_iff_ne.mpr c23
                  obtain rfl := Option.some.inj H
                  obtain ⟨Ao59, co59, eo59⟩ := NR.R_slice HO_7.out
                  subst eo59
                  go_wp2_with (first | (go_at_call 8; (with_reducible refine (leader_Parse.calls kj14 _ _ t136 t142 t143 t144 t145 _ ?side1 ?side2 A22.out).mono ?_); (case side1 => repeat (first | exact (NR.R_reads' HO_7.out).2.2 | (with_reducible refine Kd.C_alloc ?_ _) | (with_reducible refine Kd.C_drewN ?_ _) | (with_reducible refine Kd.C_drew ?_))); (case side2 => exact (NR.R_reads' HO_7.out).2.1); rintro e w60 ⟨rfl, hb⟩; have n0_ := Aside0.mk (NR.R_below (by (with_reducible repeat (first | apply NR.R_alloc | apply NR.R_drewN | apply NR.R_drew)); exact HO_7.out) hb); have n1_ := Aside0.mk (below_step (by repeat (first | (with_reducible first | exact HB.out | apply below_alloc | apply pw_below_drewN | apply below_drew1) | exact HB.out)) hb); clear HO_7; clear HB; have HO_7 := n0_; have HB := n1_; clear n0_ n1_; (try clear hb); (try clear hb2); (try clear hk); (try clear hi)) | ((with_reducible refine gate_dst (N := 12) rfl ?_); refine box_event ?hg (N := 12) ?hd (cs := #[.int .i64 0, .int .i64 0]) (t := 26) ?hr ?_; (case hd => rfl); (case hg => rfl); (case hr => first | (go_simp; done) | (go_simp; rfl)); intro gb146 hg w61 hbox hb; have n0_ := Aside0.mk (NR.R_below (by (with_reducible repeat (first | apply NR.R_alloc | apply NR.R_drewN | apply NR.R_drew)); exact HO_7.out) hb); have n1_ := Aside0.mk (below_step (by repeat (first | (with_reducible first | exact HB.out | apply below_alloc | apply pw_below_drewN | apply below_drew1) | exact HB.out)) hb); have n2_ := Aside0.mk (hbox); have n3_ := Aside0.mk ((by rw [hg]; exact (below_size (by repeat (first | (with_reducible first | exact HB.out | apply below_alloc | apply pw_below_drewN | apply below_drew1) | exact HB.out))) : w.heap.size ≤ gb146)); have n4_ := Aside0.mk ((by rw [hg]; exact (below_size (by repeat (first | (with_reducible first | exact HB.out | apply below_alloc | apply pw_below_drewN | apply below_drew1) | exact HB.out))) : w.heap.size ≤ gb146)); clear HO_7; clear HB; have HO_7 := n0_; have HB := n1_; have BK146 := n2_; have GW146 := n3_; have GE146 := n4_; clear n0_ n1_ n2_ n3_ n4_; clear hb hbox hg; have hcz62_0 : w61.cell? ⟨gb146, 0, none⟩ = some (.int .i64 0) := (blk_cell BK146.out 0).trans rfl; have hcz62_1 : w61.cell? ⟨gb146, 1, none⟩ = some (.int .i64 0) := (blk_cell BK146.out 1).trans rfl; have hfz62_0 := blk_frozen BK146.out 0; have hfz62_1 := blk_frozen BK146.out 1))
                  repeat (go_quiet (first | (go_at_call 8; (with_reducible refine (leader_Parse.calls kj14 _ _ t136 t142 t143 t144 t145 _ ?side1 ?side2 A22.out).mono ?_); (case side1 => repeat (first | exact (NR.R_reads' HO_7.out).2.2 | (with_reducible refine Kd.C_alloc ?_ _) | (with_reducible refine Kd.C_drewN ?_ _) | (with_reducible refine Kd.C_drew ?_))); (case side2 => exact (NR.R_reads' HO_7.out).2.1); rintro e w60 ⟨rfl, hb⟩; have n0_ := Aside0.mk (NR.R_below (by (with_reducible repeat (first | apply NR.R_alloc | apply NR.R_drewN | apply NR.R_drew)); exact HO_7.out) hb); have n1_ := Aside0.mk (below_step (by repeat (first | (with_reducible first | exact HB.out | apply below_alloc | apply pw_below_drewN | apply below_drew1) | exact HB.out)) hb); clear HO_7; clear HB; have HO_7 := n0_; have HB := n1_; clear n0_ n1_; (try clear hb); (try clear hb2); (try clear hk); (try clear hi)) | ((with_reducible refine gate_dst (N := 12) rfl ?_); refine box_event ?hg (N := 12) ?hd (cs := #[.int .i64 0, .int .i64 0]) (t := 26) ?hr ?_; (case hd => rfl); (case hg => rfl); (case hr => first | (go_simp; done) | (go_simp; rfl)); intro gb146 hg w61 hbox hb; have n0_ := Aside0.mk (NR.R_below (by (with_reducible repeat (first | apply NR.R_alloc | apply NR.R_drewN | apply NR.R_drew)); exact HO_7.out) hb); have n1_ := Aside0.mk (below_step (by repeat (first | (with_reducible first | exact HB.out | apply below_alloc | apply pw_below_drewN | apply below_drew1) | exact HB.out)) hb); have n2_ := Aside0.mk (hbox); have n3_ := Aside0.mk ((by rw [hg]; exact (below_size (by repeat (first | (with_reducible first | exact HB.out | apply below_alloc | apply pw_below_drewN | apply below_drew1) | exact HB.out))) : w.heap.size ≤ gb146)); have n4_ := Aside0.mk ((by rw [hg]; exact (below_size (by repeat (first | (with_reducible first | exact HB.out | apply below_alloc | apply pw_below_drewN | apply below_drew1) | exact HB.out))) : w.heap.size ≤ gb146)); clear HO_7; clear HB; have HO_7 := n0_; have HB := n1_; have BK146 := n2_; have GW146 := n3_; have GE146 := n4_; clear n0_ n1_ n2_ n3_ n4_; clear hb hbox hg; have hcz62_0 : w61.cell? ⟨gb146, 0, none⟩ = some (.int .i64 0) := (blk_cell BK146.out 0).trans rfl; have hcz62_1 : w61.cell? ⟨gb146, 1, none⟩ = some (.int .i64 0) := (blk_cell BK146.out 1).trans rfl; have hfz62_0 := blk_frozen BK146.out 0; have hfz62_1 := blk_frozen BK146.out 1)); try go_wp2_with (first | (go_at_call 8; (with_reducible refine (leader_Parse.calls kj14 _ _ t136 t142 t143 t144 t145 _ ?side1 ?side2 A22.out).mono ?_); (case side1 => repeat (first | exact (NR.R_reads' HO_7.out).2.2 | (with_reducible refine Kd.C_alloc ?_ _) | (with_reducible refine Kd.C_drewN ?_ _) | (with_reducible refine Kd.C_drew ?_))); (case side2 => exact (NR.R_reads' HO_7.out).2.1); rintro e w60 ⟨rfl, hb⟩; have n0_ := Aside0.mk (NR.R_below (by (with_reducible repeat (first | apply NR.R_alloc | apply NR.R_drewN | apply NR.R_drew)); exact HO_7.out) hb); have n1_ := Aside0.mk (below_step (by repeat (first | (with_reducible first | exact HB.out | apply below_alloc | apply pw_below_drewN | apply below_drew1) | exact HB.out)) hb); clear HO_7; clear HB; have HO_7 := n0_; have HB := n1_; clear n0_ n1_; (try clear hb); (try clear hb2); (try clear hk); (try clear hi)) | ((with_reducible refine gate_dst (N := 12) rfl ?_); refine box_event ?hg (N := 12) ?hd (cs := #[.int .i64 0, .int .i64 0]) (t := 26) ?hr ?_; (case hd => rfl); (case hg => rfl); (case hr => first | (go_simp; done) | (go_simp; rfl)); intro gb146 hg w61 hbox hb; have n0_ := Aside0.mk (NR.R_below (by (with_reducible repeat (first | apply NR.R_alloc | apply NR.R_drewN | apply NR.R_drew)); exact HO_7.out) hb); have n1_ := Aside0.mk (below_step (by repeat (first | (with_reducible first | exact HB.out | apply below_alloc | apply pw_below_drewN | apply below_drew1) | exact HB.out)) hb); have n2_ := Aside0.mk (hbox); have n3_ := Aside0.mk ((by rw [hg]; exact (below_size (by repeat (first | (with_reducible first | exact HB.out | apply below_alloc | apply pw_below_drewN | apply below_drew1) | exact HB.out))) : w.heap.size ≤ gb146)); have n4_ := Aside0.mk ((by rw [hg]; exact (below_size (by repeat (first | (with_reducible first | exact HB.out | apply below_alloc | apply pw_below_drewN | apply below_drew1) | exact HB.out))) : w.heap.size ≤ gb146)); clear HO_7; clear HB; have HO_7 := n0_; have HB := n1_; have BK146 := n2_; have GW146 := n3_; have GE146 := n4_; clear n0_ n1_ n2_ n3_ n4_; clear hb hbox hg; have hcz62_0 : w61.cell? ⟨gb146, 0, none⟩ = some (.int .i64 0) := (blk_cell BK146.out 0).trans rfl; have hcz62_1 : w61.cell? ⟨gb146, 1, none⟩ = some (.int .i64 0) := (blk_cell BK146.out 1).trans rfl; have hfz62_0 := blk_frozen BK146.out 0; have hfz62_1 := blk_frozen BK146.out 1)))
                  go_ret
                  exact ⟨by first | rfl | (simp [errW_none, errW_some] <;> rfl) | (simp [*, errW_none, errW_some] <;> rfl), by repeat (first | (with_reducible first | exact HB.out | apply below_alloc | apply pw_below_drewN | apply below_drew1 | refine below_set ?_ GE146.out) | exact HB.out)⟩
              · replace c21 := Bool.eq_false_iff.mpr c21
                subst c21
                have H1 : (some ((t136.length : Int) == 0)) = some r := by rw [if_neg (show ¬ (false = true) by decide)] at H; exact H
                clear H
                have H := H1
                clear H1
                obtain rfl := Option.some.inj H
                obtain ⟨Ao63, co63, eo63⟩ := NR.R_slice HO_7.out
                subst eo63
                go_wp2
                repeat (go_quiet (fail); try go_wp2)
                go_ret
                exact ⟨by first | rfl | (simp [errW_none, errW_some] <;> rfl) | (simp [*, errW_none, errW_some] <;> rfl), by repeat (first | (with_reducible first | exact HB.out | apply below_alloc | apply pw_below_drewN | apply below_drew1) | exact HB.out)⟩

/-- THE ONE PURE STATEMENT of amanuensislaw19_LeaderPrints: yours. -/
def amanuensislaw19_LeaderPrints.Pure : Prop := ∀ (a0 : ByteArray) (a1 : Int) (a2 : Int), a0.size ≤ 140737488351232 → (Lit.int .i64 a1).wf = true → (Lit.int .i64 a2).wf = true → ∃ k, amanuensislaw19_LeaderPrints.f k a0 a1 a2 = some true
theorem amanuensislaw19_LeaderPrints.walk (P : amanuensislaw19_LeaderPrints.Pure) (a0 : ByteArray) (a1 : Int) (a2 : Int) (w : World) (w0 : a0.size ≤ 140737488351232) (w1 : (Lit.int .i64 a1).wf = true) (w2 : (Lit.int .i64 a2).wf = true) :
    Calls Try.prog 6 #[.string a0, .int .i64 a1, .int .i64 a2] w fun e w' => e = .returned (.bool true) ∧ Below w.heap.size w w' := by
  obtain ⟨k, h⟩ := P a0 a1 a2 w0 w1 w2
  refine (amanuensislaw19_LeaderPrints.calls k a0 a1 a2 true w h).mono ?_
  rintro e w' ⟨rfl, hd⟩
  exact ⟨rfl, hd⟩

end Go.Proofs.Ytopdomaogmmklaa.PLeaderPrints
