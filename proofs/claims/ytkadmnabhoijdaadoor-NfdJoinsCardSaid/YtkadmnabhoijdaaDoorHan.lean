/- hangul: what a syllable is split into. -/
import Derived.Great.BuildSlice
import Derived.WalkSpells
import Derived.Lib.SmallJoins
import Derived.Maps.AppendAt
import Derived.Test.YtkadmnabhoijdaaDoorNfdP
set_option linter.unusedVariables false
namespace Go.Proofs.YtkadmnabhoijdaaDoor.Nfd
open Go Go.RowKit Go.Shelf Go.Proofs Go.Lib
open Go.Proofs.YtkadmnabhoijdaaDoor.Look Go.Proofs.YtkadmnabhoijdaaDoor.New

/-- A row of runes of the call's own. -/
def OwnR (w : World) (base : Nat) (v : Value) (l : List Int) : Prop := w.ownsRow base 21 1 v l.length (l.map enc32)
theorem OwnR.cellAt {w : World} {base g c : Nat} {l : List Int} (h : OwnR w base (.slice (some ⟨g, 0, none⟩) l.length c) l) {j : Nat} {x : Int} (hx : l[j]? = some x) : w.cell? ⟨g, j, none⟩ = some (enc32 x) := by
  have hj := (List.getElem?_eq_some_iff.1 hx).1
  have := World.ownsRow.cellAt h j (by omega)
  rw [this, List.getElem?_map, hx]
  rfl
theorem OwnR.news {w : World} {base g c : Nat} {l : List Int} (h : OwnR w base (.slice (some ⟨g, 0, none⟩) l.length c) l) : ∀ j u, (l.map enc32)[j]? = some u → w.cell? ((⟨g, 0, none⟩ : Addr).add j) = some u := fun j u hu => by
  rw [List.getElem?_map] at hu
  cases hl : l[j]? with
  | none => rw [hl] at hu; simp at hu
  | some x =>
    rw [hl] at hu; simp at hu; rw [← hu]
    have := h.cellAt hl
    rw [Addr.add_lit, Nat.zero_add]
    exact this
theorem one32 {l : List Int} : ∀ u ∈ l.map enc32, u.oneCell' = true := fun u hu => by
  obtain ⟨x, _, rfl⟩ := List.mem_map.1 hu
  rfl

theorem syl (r : Int) (w : World) : Calls Tryd.prog 47 #[.int .i32 r] w fun e w' => e = .returned (.bool (decide (44032 ≤ r ∧ r < 55204))) ∧ w = w' := by
  by_cases h1 : 44032 ≤ r
  · by_cases h2 : r < 55204
    · go_enter Tryd.func47, Tryd.ntmps47
      go_wp2
      go_ret
      simp [h1, h2]
    · go_enter Tryd.func47, Tryd.ntmps47
      go_wp2
      go_ret
      simp [h2]
  · have h3 : ¬ (44032 ≤ r ∧ r < 55204) := fun h => h1 h.1
    rw [decide_eq_false h3]
    clear h3
    go_enter Tryd.func47, Tryd.ntmps47
    go_wp2
    go_ret
    exact ⟨rfl, rfl⟩

theorem hsplit_no (r : Int) (w : World) (h : ¬ (44032 ≤ r ∧ r < 55204)) : Calls Tryd.prog 37 #[.int .i32 r] w fun e w' => e = .returned (.slice none 0 0) ∧ w = w' := by
  have cS := syl r w
  rw [decide_eq_false h] at cS
  clear h
  go_enter Tryd.func37, Tryd.ntmps37
  go_wp2_with (go_at_call 47; refine cS.mono ?_; rintro e w' ⟨rfl, rfl⟩)
  go_ret
  exact ⟨rfl, rfl⟩

theorem hanV_cut (r : Int) (h1 : 44032 ≤ r) (h2 : r < 55204) : hanV r = (4352 + (r - 44032) / 588) :: (4449 + (r - 44032) % 588 / 28) :: (if 0 < (r - 44032) % 28 then [4519 + (r - 44032) % 28] else []) := by
  unfold hanV
  rw [if_pos ⟨h1, h2⟩]

set_option maxHeartbeats 4000000 in
set_option maxRecDepth 100000 in
theorem hsplit_yes (r : Int) (w : World) (h1 : 44032 ≤ r) (h2 : r < 55204) : Calls Tryd.prog 37 #[.int .i32 r] w fun e w' =>
    ∃ b c, e = .returned (.slice (some ⟨b, 0, none⟩) (hanV r).length c) ∧ OwnR w' w.heap.size (.slice (some ⟨b, 0, none⟩) (hanV r).length c) (hanV r) ∧ Below w.heap.size w w' := by
  have cS := syl r w
  rw [decide_eq_true ⟨h1, h2⟩] at cS
  obtain ⟨ie, hi, hz, hs, hby⟩ := info_parts i21
  obtain ⟨s, rfl⟩ : ∃ s, r = s + 44032 := ⟨r - 44032, by omega⟩
  have hs1 : 0 ≤ s := by omega
  have hs2 : s < 11172 := by omega
  have hV := hanV_cut (s + 44032) h1 h2
  rw [show s + 44032 - 44032 = s by omega] at hV
  have HV : Aside (hanV (s + 44032) = (4352 + s / 588) :: (4449 + s % 588 / 28) :: (if 0 < s % 28 then [4519 + s % 28] else [])) := hV
  clear hV
  by_cases h3 : 0 < s % 28
  · go_enter Tryd.func37, Tryd.ntmps37
    go_wp2_with (first | (go_at_call 47; refine cS.mono ?_; rintro e w' ⟨rfl, rfl⟩) | (at_builtin; refine wpList_append_own_at _ rfl _ _ 22 rfl w.heap.size 21 ie (.int .i32 0) 1 4 Tryd.underlying22 hi hz hs hby rfl (by omega) _ _ _ rfl ((w.ownsRow_lit #[.int .i32 (4352 + s / 588), .int .i32 (4449 + s % 588 / 28)] 2 (Nat.le_refl _) (by unfold maxLen; omega) (by simp)).alloc _) ⟨w.heap.size + 1, 0, none⟩ 1 1 [.int .i32 (4519 + s % 28)] (by simp [Act.eval]) (by simp) ?c1 ?c2 (by unfold maxLen; omega) (by omega) (by simp; omega) ?_))
    case c1 =>
      have := cell_one_new (w.alloc (.cells #[.int .i32 (4352 + s / 588), .int .i32 (4449 + s % 588 / 28)] 21)) (.int .i32 (4519 + s % 28)) 21
      simpa using this
    case c2 => simp [Value.oneCell']
    intro v' w1 hown hgrow hnil hat
    obtain ⟨g, cap, rfl⟩ := ownsRow_succ (k := 2) hown
    clear hnil hat cS
    go_wp2
    go_ret
    rw [HV.out, if_pos h3]
    exact ⟨g, cap, rfl, hown, (((Below.refl _ w).alloc (Nat.le_refl _) _).alloc (by simp) _).grown hgrow (by simp; omega) (by intro k hk; simp [Value.ownBlock] at hk; omega)⟩
  · go_enter Tryd.func37, Tryd.ntmps37
    go_wp2_with (first | (go_at_call 47; refine cS.mono ?_; rintro e w' ⟨rfl, rfl⟩))
    go_ret
    rw [HV.out, if_neg (by omega)]
    exact ⟨w.heap.size, 2, rfl, w.ownsRow_lit #[.int .i32 (4352 + s / 588), .int .i32 (4449 + s % 588 / 28)] 2 (Nat.le_refl _) (by unfold maxLen; omega) (by simp), (Below.refl _ w).alloc (Nat.le_refl _) _⟩
end Go.Proofs.YtkadmnabhoijdaaDoor.Nfd
