/- nfd.Splitter.apart: what a character is, all the way, behind others. -/
import Derived.Great.BuildSlice
import Derived.WalkSpells
import Derived.Lib.SmallJoins
import Derived.Maps.AppendAt
import Derived.Test.YtkadmnabhoijdaaDoorNfdP
import Derived.Deep.RegionHeld3
set_option linter.unusedVariables false
namespace Go.Proofs.YtkadmnabhoijdaaDoor.Nfd
open Go Go.RowKit Go.Shelf Go.Proofs Go.Lib
open Go.Proofs.YtkadmnabhoijdaaDoor.Look Go.Proofs.YtkadmnabhoijdaaDoor.New

/-- A row of runes of the call's own. -/
def OwnR (w : World) (base : Nat) (v : Value) (l : List Int) : Prop := w.ownsRow base 21 1 v l.length (l.map enc32)
theorem OwnR.cellAt {w : World} {base g c : Nat} {l : List Int} (h : OwnR w base (.slice (some ⟨g, 0, none⟩) l.length c) l) {j : Nat} {x : Int} (hx : l[j]? = some x) : w.cell? ⟨g, j, none⟩ = some (enc32 x) := by
  have hj := (List.getElem?_eq_some_iff.1 hx).1
  have := World.ownsRow.cellAt h j (by omega)
  rw [this, List.getElem?_map, hx]
  rfl
theorem OwnR.news {w : World} {base g c : Nat} {l : List Int} (h : OwnR w base (.slice (some ⟨g, 0, none⟩) l.length c) l) : ∀ j u, (l.map enc32)[j]? = some u → w.cell? ((⟨g, 0, none⟩ : Addr).add j) = some u := fun j u hu => by
  rw [List.getElem?_map] at hu
  cases hl : l[j]? with
  | none => rw [hl] at hu; simp at hu
  | some x =>
    rw [hl] at hu; simp at hu; rw [← hu]
    have := h.cellAt hl
    rw [Addr.add_lit, Nat.zero_add]
    exact this
theorem one32 {l : List Int} : ∀ u ∈ l.map enc32, u.oneCell' = true := fun u hu => by
  obtain ⟨x, _, rfl⟩ := List.mem_map.1 hu
  rfl

theorem syl (r : Int) (w : World) : Calls Tryd.prog 47 #[.int .i32 r] w fun e w' => e = .returned (.bool (decide (44032 ≤ r ∧ r < 55204))) ∧ w = w' := by
  by_cases h1 : 44032 ≤ r
  · by_cases h2 : r < 55204
    · go_enter Tryd.func47, Tryd.ntmps47
      go_wp2
      go_ret
      simp [h1, h2]
    · go_enter Tryd.func47, Tryd.ntmps47
      go_wp2
      go_ret
      simp [h2]
  · have h3 : ¬ (44032 ≤ r ∧ r < 55204) := fun h => h1 h.1
    rw [decide_eq_false h3]
    clear h3
    go_enter Tryd.func47, Tryd.ntmps47
    go_wp2
    go_ret
    exact ⟨rfl, rfl⟩

theorem hsplit_no (r : Int) (w : World) (h : ¬ (44032 ≤ r ∧ r < 55204)) : Calls Tryd.prog 37 #[.int .i32 r] w fun e w' => e = .returned (.slice none 0 0) ∧ w = w' := by
  have cS := syl r w
  rw [decide_eq_false h] at cS
  clear h
  go_enter Tryd.func37, Tryd.ntmps37
  go_wp2_with (go_at_call 47; refine cS.mono ?_; rintro e w' ⟨rfl, rfl⟩)
  go_ret
  exact ⟨rfl, rfl⟩

theorem hanV_cut (r : Int) (h1 : 44032 ≤ r) (h2 : r < 55204) : hanV r = (4352 + (r - 44032) / 588) :: (4449 + (r - 44032) % 588 / 28) :: (if 0 < (r - 44032) % 28 then [4519 + (r - 44032) % 28] else []) := by
  unfold hanV
  rw [if_pos ⟨h1, h2⟩]

set_option maxHeartbeats 4000000 in
set_option maxRecDepth 100000 in
theorem hsplit_yes (r : Int) (w : World) (h1 : 44032 ≤ r) (h2 : r < 55204) : Calls Tryd.prog 37 #[.int .i32 r] w fun e w' =>
    ∃ b c, e = .returned (.slice (some ⟨b, 0, none⟩) (hanV r).length c) ∧ OwnR w' w.heap.size (.slice (some ⟨b, 0, none⟩) (hanV r).length c) (hanV r) ∧ Below w.heap.size w w' := by
  have cS := syl r w
  rw [decide_eq_true ⟨h1, h2⟩] at cS
  obtain ⟨ie, hi, hz, hs, hby⟩ := info_parts i21
  obtain ⟨s, rfl⟩ : ∃ s, r = s + 44032 := ⟨r - 44032, by omega⟩
  have hs1 : 0 ≤ s := by omega
  have hs2 : s < 11172 := by omega
  have hV := hanV_cut (s + 44032) h1 h2
  rw [show s + 44032 - 44032 = s by omega] at hV
  have HV : Aside (hanV (s + 44032) = (4352 + s / 588) :: (4449 + s % 588 / 28) :: (if 0 < s % 28 then [4519 + s % 28] else [])) := hV
  clear hV
  by_cases h3 : 0 < s % 28
  · go_enter Tryd.func37, Tryd.ntmps37
    go_wp2_with (first | (go_at_call 47; refine cS.mono ?_; rintro e w' ⟨rfl, rfl⟩) | (at_builtin; refine wpList_append_own_at _ rfl _ _ 22 rfl w.heap.size 21 ie (.int .i32 0) 1 4 Tryd.underlying22 hi hz hs hby rfl (by omega) _ _ _ rfl ((w.ownsRow_lit #[.int .i32 (4352 + s / 588), .int .i32 (4449 + s % 588 / 28)] 2 (Nat.le_refl _) (by unfold maxLen; omega) (by simp)).alloc _) ⟨w.heap.size + 1, 0, none⟩ 1 1 [.int .i32 (4519 + s % 28)] (by simp [Act.eval]) (by simp) ?c1 ?c2 (by unfold maxLen; omega) (by omega) (by simp; omega) ?_))
    case c1 =>
      have := cell_one_new (w.alloc (.cells #[.int .i32 (4352 + s / 588), .int .i32 (4449 + s % 588 / 28)] 21)) (.int .i32 (4519 + s % 28)) 21
      simpa using this
    case c2 => simp [Value.oneCell']
    intro v' w1 hown hgrow hnil hat
    obtain ⟨g, cap, rfl⟩ := ownsRow_succ (k := 2) hown
    clear hnil hat cS
    go_wp2
    go_ret
    rw [HV.out, if_pos h3]
    exact ⟨g, cap, rfl, hown, (((Below.refl _ w).alloc (Nat.le_refl _) _).alloc (by simp) _).grown hgrow (by simp; omega) (by intro k hk; simp [Value.ownBlock] at hk; omega)⟩
  · go_enter Tryd.func37, Tryd.ntmps37
    go_wp2_with (first | (go_at_call 47; refine cS.mono ?_; rintro e w' ⟨rfl, rfl⟩))
    go_ret
    rw [HV.out, if_neg (by omega)]
    exact ⟨w.heap.size, 2, rfl, w.ownsRow_lit #[.int .i32 (4352 + s / 588), .int .i32 (4449 + s % 588 / 28)] 2 (Nat.le_refl _) (by unfold maxLen; omega) (by simp), (Below.refl _ w).alloc (Nat.le_refl _) _⟩
end Go.Proofs.YtkadmnabhoijdaaDoor.Nfd
set_option linter.unusedVariables false
namespace Go.Proofs.YtkadmnabhoijdaaDoor.Nfd
open Go Go.RowKit Go.Shelf Go.Proofs Go.Lib
open Go.Proofs.YtkadmnabhoijdaaDoor.Look Go.Proofs.YtkadmnabhoijdaaDoor.New

/-- What comes of a row that is appended to. -/
structure Onto (w w' : World) (base : Nat) (v v' : Value) (l : List Int) : Prop where
  own : OwnR w' base v' l
  grown : w.grownBy w' v.ownBlock
  at' : v'.ownBlock = v.ownBlock ∨ ∃ g, v'.ownBlock = some g ∧ w.heap.size ≤ g
theorem Onto.trans {w w1 w2 : World} {base : Nat} {v v1 v2 : Value} {l1 l2 : List Int} (h : Onto w w1 base v v1 l1) (k : Onto w1 w2 base v1 v2 l2) : Onto w w2 base v v2 l2 := by
  refine ⟨k.own, ⟨k.grown.os.trans h.grown.os, k.grown.tape.trans h.grown.tape, k.grown.output.trans h.grown.output, Nat.le_trans h.grown.size k.grown.size, fun i hi hne => ?_⟩, ?_⟩
  · refine (k.grown.block i (Nat.lt_of_lt_of_le hi h.grown.size) fun e => ?_).trans (h.grown.block i hi hne)
    rcases h.at' with h1 | ⟨g, h1, h2⟩
    · rw [h1] at e; exact hne e
    · rw [h1] at e
      injection e with e
      omega
  · rcases k.at' with h1 | ⟨g, h1, h2⟩
    · rw [h1]; exact h.at'
    · exact .inr ⟨g, h1, Nat.le_trans h.grown.size h2⟩
theorem Onto.after {w w0 w' : World} {base : Nat} {v v' : Value} {l : List Int} (h : Onto w0 w' base v v' l) (hg : w.grownBy w0 none) : Onto w w' base v v' l := by
  refine ⟨h.own, ⟨h.grown.os.trans hg.os, h.grown.tape.trans hg.tape, h.grown.output.trans hg.output, Nat.le_trans hg.size h.grown.size, fun i hi hne => ?_⟩, ?_⟩
  · exact (h.grown.block i (Nat.lt_of_lt_of_le hi hg.size) hne).trans (hg.block i hi (by simp))
  · rcases h.at' with h1 | ⟨g, h1, h2⟩
    · exact .inl h1
    · exact .inr ⟨g, h1, Nat.le_trans hg.size h2⟩
theorem Onto.then {w w0 w' : World} {base : Nat} {v v' : Value} {l : List Int} (h : Onto w w0 base v v' l) (hg : w0.grownBy w' none) : Onto w w' base v v' l :=
  ⟨h.own.kept hg (Classical.em _), h.grown.trans ⟨hg.os, hg.tape, hg.output, hg.size, fun k hk _ => hg.block k hk (by simp)⟩, h.at'⟩
theorem Onto.below {w w' : World} {base : Nat} {v v' : Value} {l l' : List Int} (h : Onto w w' base v v' l') (ho : OwnR w base v l) (hb : base ≤ w.heap.size) : Below base w w' :=
  (Below.refl _ _).grown h.grown hb fun k hk => (ho.lt k hk).1
theorem grown_of_below {W W' : World} (h : Below W.heap.size W W') : W.grownBy W' none := ⟨h.os, h.tape, h.output, h.size, fun k hk _ => h.block k hk⟩
theorem grown_alloc (w : World) (o : Obj) : w.grownBy (w.alloc o) none := grown_of_below ((Below.refl _ w).alloc (Nat.le_refl _) _)
/-- An own row's cells keep where a call writes to its own row alone. -/
theorem cell_kept {w w' : World} {base : Nat} {v v' : Value} {l : List Int} {B o : Nat} {u : Value} (h : Onto w w' base v v' l) (hc : w.cell? ⟨B, o, none⟩ = some u) (hB : B < w.heap.size) (hne : some B ≠ v.ownBlock) : w'.cell? ⟨B, o, none⟩ = some u :=
  (World.cell?_of_block (w := w) (h.grown.block B hB hne)).trans hc
theorem rowAt_of {T : List P4} {W W' : World} {b : Nat} (h : RowAt T W b) (hs : W.heap.size ≤ W'.heap.size) (hb : W'.heap[b]? = W.heap[b]?) : RowAt T W' b :=
  ⟨Nat.lt_of_lt_of_le h.lt hs, fun j v hv => (World.cell?_of_block (w := W) (a := ⟨b, j, none⟩) hb).trans (h.cell j v hv)⟩

theorem neqNil (w : World) (a : Option Addr) (n c : Nat) : (binOp .neq 22 (.slice a n c) (.slice none 0 0)).run Tryd.prog w = .ok (.bool (!a.isNone)) w := run_neq_slice_nil_any w 22 21 a n c 0 0 Tryd.underlying22
/-- The variable that holds the table is kept. -/
def Boxy (w w' : World) (v : Value) (tb cap : Nat) : Prop := w'.cell? ⟨w.heap.size, 0, none⟩ = some (.slice (some ⟨tb, 0, none⟩) 572 cap) ∧ w.heap.size < w'.heap.size ∧ some w.heap.size ≠ v.ownBlock
/-- What the contract of apart says. -/
def ApartSays (tb cap n : Nat) (r : Int) : Prop := ∀ (out : Value) (l : List Int) (base : Nat) (w : World), RowAt tableT w tb → tb < base → base ≤ w.heap.size → OwnR w base out l → l.length + 3 * 2 ^ n ≤ 1000000000000 →
  Calls Tryd.prog 28 #[.agg #[.slice (some ⟨tb, 0, none⟩) 572 cap], out, .int .i32 r] w fun e w' => ∃ v, e = .returned v ∧ Onto w w' base out v (l ++ apF n r)

set_option maxHeartbeats 8000000 in
set_option maxRecDepth 1000000 in
/-- A syllable. -/
theorem apart_han (tb cap n : Nat) (r : Int) (h1 : 44032 ≤ r) (h2 : r < 55204) : ApartSays tb cap n r := by
  intro out l base w hT htb hbase hown hl
  have e : apF n r = hanV r := ap_han (hanV_some ⟨h1, h2⟩) n
  rw [e]
  have hlen : (hanV r).length ≤ 3 := by
    unfold hanV
    split
    · split <;> simp
    · simp
  have hpos : 1 ≤ 2 ^ n := Nat.one_le_two_pow
  have hll : l.length + 3 ≤ 1000000000000 := by omega
  clear e hl hpos hT
  obtain ⟨ie, hi, hz, hs, hby⟩ := info_parts i21
  have hneq := neqNil
  have cH := fun W => hsplit_yes r W h1 h2
  obtain ⟨K, hK⟩ : ∃ K, K = hanV r := ⟨_, rfl⟩
  rw [← hK] at hlen ⊢
  simp only [← hK] at cH
  clear hK h1 h2
  obtain ⟨M, hM⟩ : ∃ M, M = K.length := ⟨_, rfl⟩
  rw [← hM] at hlen
  simp only [← hM] at cH
  have HM : Aside (M = K.length) := hM
  clear hM
  go_enter Tryd.func28, Tryd.ntmps28
  go_wp2_with (first
    | (go_at_call 37; refine (cH _).mono ?_; rintro e w1 ⟨b, c, rfl, hk, hb⟩; clear cH)
    | (at_builtin; refine wpList_append_own_at _ rfl _ _ 22 rfl base 21 ie (.int .i32 0) 1 4 Tryd.underlying22 hi hz hs hby rfl (by omega) _ _ _ rfl (World.ownsRow.kept (World.ownsRow.alloc hown _) (grown_of_below hb) (Classical.em _)) ⟨b, 0, none⟩ M c (K.map enc32) rfl ?c1 ?c2 one32 ?c4 ?c5 ?c6 ?_))
  case c1 => simp [HM.out]
  case c2 =>
    rw [HM.out] at hk
    exact hk.news
  case c4 => unfold maxLen; omega
  case c5 => omega
  case c6 => have := hb.size; simp at this; omega
  intro v' w2 hown2 hgrow2 hnil2 hat2
  have O2 : Onto w1 w2 base out v' (l ++ K) := ⟨by
      have := hown2
      unfold OwnR
      rw [List.length_append, List.map_append, ← HM.out]
      exact this, hgrow2, hat2.imp id fun h => ⟨_, h, Nat.le_refl _⟩⟩
  have O3 : Onto w w2 base out v' (l ++ K) := (O2.after (grown_of_below hb)).after (grown_alloc w _)
  clear O2 hown2 hgrow2 hnil2 hat2 hk hb
  go_wp2
  go_ret
  exact ⟨v', rfl, O3⟩

set_option maxHeartbeats 8000000 in
set_option maxRecDepth 1000000 in
/-- What is not split. -/
theorem apart_none (tb cap n : Nat) (r : Int) (hr : -2147483648 ≤ r ∧ r ≤ 2147483647) (h1 : ¬ (44032 ≤ r ∧ r < 55204)) (h2 : (splitV tableT r).2.2 = 0) : ApartSays tb cap n r := by
  intro out l base w hT htb hbase hown hl
  rw [ap_none (hanV_none h1) h2 n]
  have hpos : 1 ≤ 2 ^ n := Nat.one_le_two_pow
  have hll : l.length + 3 ≤ 1000000000000 := by omega
  obtain ⟨ie, hi, hz, hs, hby⟩ := info_parts i21
  have hneq := neqNil
  have cH := fun W => hsplit_no r W h1
  have cS := fun W (h : RowAt tableT W tb) => tsplit tableT tb cap r W h (by rw [tab_len]; decide) table_rising tab_bd hr.1 hr.2
  rw [tab_len] at cS
  have hRA : ∀ o, RowAt tableT (w.alloc o) tb := fun o => hT.below ((Below.refl _ w).alloc (Nat.le_refl _) o)
  generalize splitV tableT r = V at cS h2
  obtain ⟨V1, V2, V3⟩ := V
  simp only at h2 cS
  subst h2
  have cS2 := fun o => cS _ (hRA o)
  generalize tableT = T at *
  clear hl hpos h1 hr cS hRA hT
  go_enter Tryd.func28, Tryd.ntmps28
  go_wp2_with (first
    | (go_at_call 37; refine (cH _).mono ?_; rintro e w1 ⟨rfl, rfl⟩; clear cH)
    | (go_at_call 38; refine (cS2 _).mono ?_; rintro e w1 ⟨rfl, hb⟩; clear cS2)
    | (at_builtin; refine wpList_append_own_at _ rfl _ _ 22 rfl base 21 ie (.int .i32 0) 1 4 Tryd.underlying22 hi hz hs hby rfl (by omega) _ _ _ rfl (World.ownsRow.alloc (World.ownsRow.kept (World.ownsRow.alloc hown _) (grown_of_below hb) (Classical.em _)) _) ⟨w1.heap.size, 0, none⟩ 1 1 [.int .i32 r] rfl rfl ?c2 ?c3 ?c4 ?c5 ?c6 ?_))
  case c2 => exact cell_one_new w1 (.int .i32 r) 21
  case c3 => simp [Value.oneCell']
  case c4 => unfold maxLen; omega
  case c5 => omega
  case c6 => have := hb.size; simp at this ⊢; omega
  intro v' w2 hown2 hgrow2 hnil2 hat2
  have O2 : Onto (w1.alloc (.cells #[.int .i32 r] 21)) w2 base out v' (l ++ [r]) := ⟨by
      have := hown2
      unfold OwnR
      rw [List.length_append, List.map_append]
      exact this, hgrow2, hat2.imp id fun h => ⟨_, h, by simp⟩⟩
  have O3 : Onto w w2 base out v' (l ++ [r]) := ((O2.after (grown_alloc w1 _)).after (grown_of_below hb)).after (grown_alloc w _)
  clear O2 hown2 hgrow2 hnil2 hat2 hb
  go_wp2
  go_ret
  exact ⟨v', rfl, O3⟩

/-- The callees ahead of a recursion. -/
theorem apart_head (tb cap : Nat) (r : Int) (w : World) (hT : RowAt tableT w tb) (hr : -2147483648 ≤ r ∧ r ≤ 2147483647) :
    ∀ o, Calls Tryd.prog 38 #[.slice (some ⟨tb, 0, none⟩) 572 cap, .int .i32 r] (w.alloc o) fun e w' => e = .returned (.tuple #[.int .i32 (splitV tableT r).1, .int .i32 (splitV tableT r).2.1, .int .i64 (splitV tableT r).2.2]) ∧ Below (w.alloc o).heap.size (w.alloc o) w' := by
  have cS := fun W (h : RowAt tableT W tb) => tsplit tableT tb cap r W h (by rw [tab_len]; decide) table_rising tab_bd hr.1 hr.2
  rw [tab_len] at cS
  exact fun o => cS _ (hT.below ((Below.refl _ w).alloc (Nat.le_refl _) o))

set_option maxHeartbeats 8000000 in
set_option maxRecDepth 1000000 in
/-- What is another one. -/
theorem apart_one (tb cap n : Nat) (r a : Int) (hr : -2147483648 ≤ r ∧ r ≤ 2147483647) (h1 : ¬ (44032 ≤ r ∧ r < 55204)) (h2 : splitV tableT r = (a, 0, 1)) (ih : ApartSays tb cap n a) : ApartSays tb cap (n + 1) r := by
  intro out l base w hT htb hbase hown hl
  have e : apF (n + 1) r = apF n a := by
    rw [apF, if_pos (hanV_none h1), h2]
    rfl
  rw [e]
  have hl2 : l.length + 3 * 2 ^ n ≤ 1000000000000 := by rw [Nat.pow_succ] at hl; omega
  have cH := fun W => hsplit_no r W h1
  have cS2 := apart_head tb cap r w hT hr
  rw [h2] at cS2
  have hneq := neqNil
  have hbox : ∀ w1, Below (w.alloc (.cells #[.slice (some ⟨tb, 0, none⟩) 572 cap] 41)).heap.size (w.alloc (.cells #[.slice (some ⟨tb, 0, none⟩) 572 cap] 41)) w1 → w1.cell? ⟨w.heap.size, 0, none⟩ = some (.slice (some ⟨tb, 0, none⟩) 572 cap) := fun w1 hb => by
    rw [hb.cell (p := ⟨w.heap.size, 0, none⟩) (by simp)]
    simp
  have cA : ∀ w1, Below (w.alloc (.cells #[.slice (some ⟨tb, 0, none⟩) 572 cap] 41)).heap.size (w.alloc (.cells #[.slice (some ⟨tb, 0, none⟩) 572 cap] 41)) w1 →
      Calls Tryd.prog 28 #[.agg #[.slice (some ⟨tb, 0, none⟩) 572 cap], out, .int .i32 a] w1 fun e w' => ∃ v, e = .returned v ∧ Onto w w' base out v (l ++ apF n a) := fun w1 hb => by
    have g1 := grown_alloc w (.cells #[.slice (some ⟨tb, 0, none⟩) 572 cap] 41)
    have hs : w.heap.size ≤ w1.heap.size := by have := hb.size; simp at this; omega
    refine (ih out l base w1 (rowAt_of hT hs ?_) htb (Nat.le_trans hbase hs) ((World.ownsRow.kept (World.ownsRow.alloc hown _) (grown_of_below hb) (Classical.em _))) hl2).mono ?_
    · have hlt := hT.lt
      rw [hb.block tb (by simp; omega), Below.heap_alloc _ _ _ hlt]
    · rintro e w' ⟨v, rfl, hO⟩
      exact ⟨v, rfl, (hO.after (grown_of_below hb)).after g1⟩
  clear ih hl hl2 h1 h2 hr hT e hown
  generalize apF n a = K at cA ⊢
  go_enter Tryd.func28, Tryd.ntmps28
  go_wp2_with (first
    | (go_at_call 37; refine (cH _).mono ?_; rintro e w1 ⟨rfl, rfl⟩; clear cH)
    | (go_at_call 38; refine (cS2 _).mono ?_; rintro e w1 ⟨rfl, hb⟩; have hbx := hbox _ hb; have cA2 := cA _ hb; clear cS2 hbox cA)
    | (go_at_call 28; refine cA2.mono ?_; rintro e w2 ⟨v, rfl, hO⟩; clear cA2))
  go_ret
  exact ⟨v, rfl, hO⟩

set_option maxHeartbeats 8000000 in
set_option maxRecDepth 1000000 in
/-- What is a pair. -/
theorem apart_two (tb cap n : Nat) (r a b : Int) (hr : -2147483648 ≤ r ∧ r ≤ 2147483647) (h1 : ¬ (44032 ≤ r ∧ r < 55204)) (h2 : splitV tableT r = (a, b, 2)) (iha : ApartSays tb cap n a) (ihb : ApartSays tb cap n b) : ApartSays tb cap (n + 1) r := by
  intro out l base w hT htb hbase hown hl
  have e : apF (n + 1) r = apF n a ++ apF n b := by
    rw [apF, if_pos (hanV_none h1), h2]
    rfl
  rw [e]
  have hla := apF_len n a
  have hl2 : l.length + 3 * 2 ^ n ≤ 1000000000000 ∧ (l ++ apF n a).length + 3 * 2 ^ n ≤ 1000000000000 := by rw [Nat.pow_succ] at hl; rw [List.length_append]; omega
  have cH := fun W => hsplit_no r W h1
  have cS2 := apart_head tb cap r w hT hr
  rw [h2] at cS2
  have hneq := neqNil
  have hbox : ∀ w1, Below (w.alloc (.cells #[.slice (some ⟨tb, 0, none⟩) 572 cap] 41)).heap.size (w.alloc (.cells #[.slice (some ⟨tb, 0, none⟩) 572 cap] 41)) w1 → w1.cell? ⟨w.heap.size, 0, none⟩ = some (.slice (some ⟨tb, 0, none⟩) 572 cap) := fun w1 hb => by
    rw [hb.cell (p := ⟨w.heap.size, 0, none⟩) (by simp)]
    simp
  have cA : ∀ w1, Below (w.alloc (.cells #[.slice (some ⟨tb, 0, none⟩) 572 cap] 41)).heap.size (w.alloc (.cells #[.slice (some ⟨tb, 0, none⟩) 572 cap] 41)) w1 → ∀ k,
      Calls Tryd.prog 28 #[.agg #[.slice (some ⟨tb, 0, none⟩) 572 cap], out, .int .i32 a] (w1.drewN k) fun e w' => ∃ v, e = .returned v ∧ Onto w w' base out v (l ++ apF n a) ∧ Boxy w w' v tb cap := fun w1 hb k => by
    have g1 := grown_alloc w (.cells #[.slice (some ⟨tb, 0, none⟩) 572 cap] 41)
    have hs : w.heap.size ≤ w1.heap.size := by have := hb.size; simp at this; omega
    have hs1 : w.heap.size < w1.heap.size := by have := hb.size; simp at this; omega
    refine (iha out l base (w1.drewN k) (rowAt_of hT hs ?_) htb (Nat.le_trans hbase hs) (show OwnR (w1.drewN k) base out l from (World.ownsRow.kept (World.ownsRow.alloc hown _) (grown_of_below hb) (Classical.em _) : OwnR w1 base out l)) hl2.1).mono ?_
    · have hlt := hT.lt
      show w1.heap[tb]? = _
      rw [hb.block tb (by simp; omega), Below.heap_alloc _ _ _ hlt]
    · rintro e w' ⟨v, rfl, hO⟩
      refine ⟨v, rfl, ?_, ?_⟩
      · have hO' : Onto w1 w' base out v (l ++ apF n a) := ⟨hO.own, ⟨hO.grown.os, hO.grown.tape, hO.grown.output, hO.grown.size, hO.grown.block⟩, hO.at'⟩
        exact (hO'.after (grown_of_below hb)).after g1
      · have hne : some w.heap.size ≠ out.ownBlock := fun e => by
          have := (World.ownsRow.lt hown _ e.symm).2
          omega
        refine ⟨cell_kept hO (hbox w1 hb) hs1 hne, Nat.lt_of_lt_of_le hs1 hO.grown.size, fun e => ?_⟩
        rcases hO.at' with h | ⟨g, h, h2⟩
        · rw [h] at e; exact hne e
        · rw [h] at e
          injection e with e
          have : w1.heap.size ≤ g := h2
          omega
  have cB : ∀ w2 v, Onto w w2 base out v (l ++ apF n a) → Boxy w w2 v tb cap → Calls Tryd.prog 28 #[.agg #[.slice (some ⟨tb, 0, none⟩) 572 cap], v, .int .i32 b] w2 fun e w' => ∃ v', e = .returned v' ∧ Onto w w' base out v' (l ++ (apF n a ++ apF n b)) ∧ w'.cell? ⟨w.heap.size, 0, none⟩ = some (.slice (some ⟨tb, 0, none⟩) 572 cap) := fun w2 v hO hB => by
    refine (ihb v (l ++ apF n a) base w2 (rowAt_of hT hO.grown.size ?_) htb (Nat.le_trans hbase hO.grown.size) hO.own hl2.2).mono ?_
    · refine hO.grown.block tb hT.lt fun e => ?_
      have := (World.ownsRow.lt hown _ e.symm).1
      omega
    · rintro e w' ⟨v', rfl, hP⟩
      refine ⟨v', rfl, ?_, cell_kept hP hB.1 hB.2.1 hB.2.2⟩
      rw [← List.append_assoc]
      exact hO.trans hP
  clear iha ihb hl hl2 h1 h2 hr hT e hown hla
  generalize apF n a = KA at cA cB ⊢
  generalize apF n b = KB at cB ⊢
  go_enter Tryd.func28, Tryd.ntmps28
  go_wp2_with (first
    | (go_at_call 37; refine (cH _).mono ?_; rintro e w1 ⟨rfl, rfl⟩; clear cH)
    | (go_at_call 38; refine (cS2 _).mono ?_; rintro e w1 ⟨rfl, hb⟩; have hbx := hbox _ hb; have cA2 := cA _ hb; clear cS2 hbox cA))
  clear hb hbase htb hneq
  go_region_held3 (fun w' => w'.cell? ⟨w.heap.size, 0, none⟩ = some (.slice (some ⟨tb, 0, none⟩) 572 cap)) (first | assumption | go_keep)
    (first
      | (go_at_call 28; refine (cB _ _ hO hc2).mono ?_; rintro e w3 ⟨v', rfl, hP, hc3⟩)
      | (go_at_call 28; refine (cA2 _).mono ?_; rintro e w2 ⟨v, rfl, hO, hc2⟩; have hc2' := hc2.1; clear cA2))
  go_wp2
  go_ret
  exact ⟨v', rfl, hP⟩

theorem split_zero (r : Int) : (splitV tableT r).2.2 = 1 → (splitV tableT r).2.1 = 0 := by
  unfold splitV
  split
  · intro h; cases h
  · split
    · intro _; rfl
    · intro h; simp at h
/-- The contract. -/
theorem apartW (tb cap : Nat) : ∀ (n : Nat) (r : Int), flatF n r = true → (-2147483648 ≤ r ∧ r ≤ 2147483647) → ApartSays tb cap n r
  | 0, r, hf, hr => by
    by_cases hh : 44032 ≤ r ∧ r < 55204
    · exact apart_han tb cap 0 r hh.1 hh.2
    · exact apart_none tb cap 0 r hr hh (by simpa [flatF, hanV_none hh] using hf)
  | n + 1, r, hf, hr => by
    by_cases hh : 44032 ≤ r ∧ r < 55204
    · exact apart_han tb cap (n + 1) r hh.1 hh.2
    · have hs := split_range r
      obtain ⟨V, hV⟩ : ∃ V, splitV tableT r = V := ⟨_, rfl⟩
      have hn := split_n r
      have hz := split_zero r
      simp only [flatF, hanV_none hh, decide_true, Bool.not_true, Bool.false_or] at hf
      rw [hV] at hs hn hf hz
      obtain ⟨a, b, m⟩ := V
      simp only at hs hn hf hz
      rcases hn with rfl | rfl | rfl
      · exact apart_none tb cap (n + 1) r hr hh (by rw [hV])
      · rw [hz rfl] at hV
        exact apart_one tb cap n r a hr hh hV (apartW tb cap n a (by simpa using hf) hs.1)
      · simp only [if_true, Bool.and_eq_true] at hf
        exact apart_two tb cap n r a b hr hh hV (apartW tb cap n a hf.1 hs.1) (apartW tb cap n b hf.2 hs.2)
theorem apart_all (tb cap : Nat) (r : Int) (hr : -2147483648 ≤ r ∧ r ≤ 2147483647) (out : Value) (l : List Int) (base : Nat) (w : World) (hT : RowAt tableT w tb) (htb : tb < base) (hb : base ≤ w.heap.size) (ho : OwnR w base out l) (hl : l.length ≤ 100000000000) :
    Calls Tryd.prog 28 #[.agg #[.slice (some ⟨tb, 0, none⟩) 572 cap], out, .int .i32 r] w fun e w' => ∃ v, e = .returned v ∧ Onto w w' base out v (l ++ apV r) := by
  unfold apV
  exact apartW tb cap 3 r (flat_all r) hr out l base w hT htb hb ho (by omega)
end Go.Proofs.YtkadmnabhoijdaaDoor.Nfd
