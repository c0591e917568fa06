/- The closures of detect.Evidence; Evidence. -/
import Derived.Test.YtemhfcgkfdklhaaGreatDoorDet1
set_option linter.all false
namespace Go.Proofs.YtemhfcgkfdklhaaGreatDoor.Look
open Go Go.RowKit Go.Shelf Go.Proofs Go.Proofs.YtemhfcgkfdklhaaGreatDoor.Rd

theorem cells_one (W : World) (v : Value) (t : TypeId) : (W.alloc (.cells #[v] t)).cell? ⟨W.heap.size, 0, none⟩ = some v := by
  have hx : (W.alloc (.cells #[v] t)).heap[W.heap.size]? = some (.cells #[v] t) := (MapKept.heap_alloc W _).1
  unfold World.cell?
  simp only [hx]
  rfl
theorem texts_below {W0 wr w1 w2 w3 : World} {o : Obj} (h : Below W0.heap.size W0 wr) (h1 : Below wr.heap.size wr w1) (h2 : Below w1.heap.size w1 w2) (h3 : Below W0.heap.size (w2.alloc o) w3) : Below W0.heap.size W0 w3 := by
  have a1 := h.trans (h1.mono h.size)
  have a2 := a1.trans (h2.mono a1.size)
  exact (a2.alloc a2.size o).trans h3

set_option maxHeartbeats 8000000 in
set_option maxRecDepth 100000 in
theorem cTexts (w : World) (v : Value) (f : Fld) (h : FldV w v f) (hs : Small f) : Calls Tryz.prog 27 #[v] w fun e w' => ∃ v', e = .returned v' ∧ Aside (TextsAt w' v' (textsF f) ∧ Below w.heap.size w w') := by
  obtain ⟨vt, i0, i1, vs, rfl, hvt, hvs⟩ := h
  obtain ⟨sa, sc, hvs1, hvs2⟩ := hvs
  obtain ⟨ta, tc, hvt1, hvt2⟩ := hvt
  obtain ⟨M, hM⟩ : ∃ M, M = f.subs.length := ⟨_, rfl⟩
  obtain ⟨T, hT⟩ : ∃ T, T = f.text.length := ⟨_, rfl⟩
  have hvt : TextV w (.slice ta T tc) f.text := ⟨ta, tc, by rw [hT], hvt2⟩
  have hvs : SubsAt w (.slice sa M sc) f.subs := ⟨sa, sc, by rw [hM], hvs2⟩
  rw [← hM] at hvs1
  rw [← hT] at hvt1
  subst hvs1 hvt1
  clear hvt2 hvs2
  obtain ⟨tag, htag⟩ : ∃ t, t = f.tag := ⟨_, rfl⟩
  rw [← htag]
  obtain ⟨W0, hW0⟩ : ∃ W0, W0 = w.alloc (.cells #[.string tag, .slice ta T tc, .int .u8 i0, .int .u8 i1, .slice sa M sc] 48) := ⟨_, rfl⟩
  have hb0 : Below w.heap.size w W0 := by rw [hW0]; exact (Below.refl _ w).alloc (Nat.le_refl _) _
  have hc := cControl tag
  have hv0 := hvt.below hb0
  have hs0 := hvs.below hb0
  cases hct : ctlV tag with
  | true =>
    have htx : textsF f = [f.text] := if_pos (by rw [← htag]; exact hct)
    rw [htx]
    rw [hct] at hc
    have HC : Hid (Calls Tryz.prog 35 #[.slice ta T tc] W0 fun e w' => ∃ a' c', e = .returned (.slice a' T c') ∧ Aside (OwnY w' 0 (.slice a' T c') f.text ∧ Below W0.heap.size W0 w')) := by rw [hT]; rw [hT] at hv0; exact cCloneF _ f.text W0 hv0 hs.1.1
    have HB : Aside (Below w.heap.size w W0) := hb0
    rw [hW0] at HC
    clear hv0 hs0 hvt hvs hs htx hct hb0 hM hT
    clear htag
    replace hW0 := Lib.hid hW0
    go_enter Tryz.func27, Tryz.ntmps27
    go_wp2_with (first
      | (go_at_call 35; refine HC.out.mono ?_; rintro e w2 ⟨a', c', rfl, hA⟩; clear HC)
      | (go_at_call 34; refine (hc _).mono ?_; rintro _ w9 ⟨rfl, rfl⟩))
    go_ret
    have hB1 : Below W0.heap.size W0 w2 := by rw [hW0.out]; exact hA.out.2
    have hB2 := HB.out.trans (hB1.mono HB.out.size)
    have hx : (w2.alloc (.cells #[.slice a' T c'] 22)).heap[w2.heap.size]? = some (.cells #[.slice a' T c'] 22) := (MapKept.heap_alloc w2 _).1
    refine ⟨_, rfl, ⟨_, _, rfl, fun _ => ⟨w2.heap.size, 0, rfl, (Array.getElem?_eq_some_iff.1 hx).1, fun k l hk => ?_⟩⟩, below_alloc hB2 _⟩
    cases k with
    | succ k => simp at hk
    | zero =>
      simp at hk
      subst hk
      exact ⟨_, cells_one w2 _ _, (hA.out.1.alloc _).text⟩
  | false =>
    have htx : textsF f = f.subs := if_neg (by rw [← htag, hct]; decide)
    rw [htx]
    rw [hct] at hc
    obtain ⟨sa', sc', hse, hsub⟩ := hs0
    injection hse with hse1 hse2 hse3
    subst hse1
    clear hse2 hse3
    have HS : Aside (Small f ∧ M = f.subs.length ∧ Below w.heap.size w W0 ∧ (f.subs ≠ [] → ∃ b off, sa = some ⟨b, off, none⟩ ∧ b < W0.heap.size ∧ ∀ k l, f.subs[k]? = some l → ∃ code u, W0.cell? ⟨b, off + k * 2, none⟩ = some (.int .u8 code) ∧ W0.cell? ⟨b, off + (k * 2 + 1), none⟩ = some u ∧ TextV W0 u l)) := ⟨hs, hM, hb0, hsub⟩
    have hMz : (M : Int) ≤ 1000000 := by have := hs.2.1; omega
    clear hv0 hvt hvs hs htx hct hb0 hsub hM hT
    clear htag
    go_enter Tryz.func27, Tryz.ntmps27
    go_wp2_with (go_at_call 34; refine (hc _).mono ?_; rintro _ w9 ⟨rfl, rfl⟩)
    rw [← hW0]
    replace hW0 := Lib.hid hW0
    go_loopg [3, 5, 16] M (fun g v3 v5 v16 wr => ∃ k : Nat, v16 = .int .i64 (k : Int) ∧ k ≤ M ∧ M - k ≤ g ∧ Aside (OwnT wr W0.heap.size v3 (f.subs.take k) ∧ Below W0.heap.size W0 wr))
    case atStart => exact ⟨0, rfl, by omega, by omega, ⟨[], World.ownsRow_nil _ _ _ _, fun k l hk => by simp at hk⟩, Below.refl _ _⟩
    case round =>
      obtain ⟨k, rfl, hk, hg1, HI⟩ := hrel
      by_cases hlt : k < M
      · have hltz : (k : Int) < (M : Int) := by omega
        have hk0 : (0 : Int) ≤ (k : Int) := by omega
        have hkl : k < f.subs.length := by have := HS.out.2.1; omega
        obtain ⟨b, off, rfl, hb, hcs⟩ := HS.out.2.2.2 (fun e => by rw [e] at hkl; simp at hkl)
        obtain ⟨code, u, c0, c1, hu⟩ := hcs k f.subs[k] (List.getElem?_eq_getElem hkl)
        have d0 : wr.cell? ⟨b, off + k * 2, none⟩ = some (.int .u8 code) := (HI.out.2.cell (p := ⟨b, off + k * 2, none⟩) hb).trans c0
        have d1 : wr.cell? ⟨b, off + k * 2 + 1, none⟩ = some u := by rw [Nat.add_assoc]; exact (HI.out.2.cell (p := ⟨b, off + (k * 2 + 1), none⟩) hb).trans c1
        obtain ⟨l, hl⟩ : ∃ l, l = f.subs[k] := ⟨_, rfl⟩
        rw [← hl] at hu
        have hst : f.subs.take (k + 1) = f.subs.take k ++ [l] := by rw [hl, List.take_add_one, List.getElem?_eq_getElem hkl]; rfl
        have huw := hu.below HI.out.2
        obtain ⟨ua, uc, rfl, hu2⟩ := hu
        have HC : Hid (∀ X, Below wr.heap.size wr X → Calls Tryz.prog 35 #[.slice ua l.length uc] X fun e w' => ∃ a' c', e = .returned (.slice a' l.length c') ∧ Aside (OwnY w' 0 (.slice a' l.length c') l ∧ Below X.heap.size X w')) := fun X hX => cCloneF _ l X (huw.below hX) (HS.out.1.2.2 l (by rw [hl]; exact List.getElem_mem hkl)).1
        have HL : Aside (f.subs.take (k + 1) = f.subs.take k ++ [l] ∧ k < f.subs.length) := ⟨hst, hkl⟩
        obtain ⟨NL, hNL⟩ : ∃ z, z = l.length := ⟨_, rfl⟩
        rw [← hNL] at HC d1
        clear c0 c1 hl hst huw hu2 hcs hkl hNL
        go_wp2_with (first
          | (at_builtin; refine append_text rfl _ _ rfl W0.heap.size _ (f.subs.take k) rfl (((HI.out.1.below hA.out.1).below hA.out.2.2).below ((Below.refl _ w2).alloc (Nat.le_refl _) _)) ⟨w2.heap.size, 0, none⟩ 1 (.slice a1 NL c1) l rfl (cells_one w2 _ _) (hA.out.2.1.alloc _) (by rw [List.length_take]; omega) (by have h1 := HI.out.2.size; have h2 := hA.out.1.size; have h3 := hA.out.2.2.size; simp at h2 h3 ⊢; omega) ?_; intro v' w3 ho hb3; have hB3 : Aside (OwnT w3 W0.heap.size v' (f.subs.take k ++ [l]) ∧ Below W0.heap.size W0 w3) := ⟨ho, texts_below HI.out.2 hA.out.1 hA.out.2.2 hb3⟩; clear ho hb3)
          | (go_at_call 35; refine (HC.out _ ((Below.refl _ wr).alloc (Nat.le_refl _) _)).mono ?_; rintro e w2 ⟨a1, c1, rfl, hA2⟩; have hA : Aside (Below wr.heap.size wr (wr.alloc (.cells #[.int .u8 code, .slice ua NL uc] 64)) ∧ OwnY w2 0 (.slice a1 NL c1) l ∧ Below (wr.alloc (.cells #[.int .u8 code, .slice ua NL uc] 64)).heap.size (wr.alloc (.cells #[.int .u8 code, .slice ua NL uc] 64)) w2) := ⟨(Below.refl _ wr).alloc (Nat.le_refl _) _, hA2.out.1, hA2.out.2⟩; clear HC hA2))
        go_roundg (M - (k + 1))
        case measure => omega
        case rel => exact ⟨k + 1, by first | rfl | go_num, by omega, by omega, by rw [HL.out.1]; exact hB3.out.1, hB3.out.2⟩
      · have hkM : k = M := by omega
        have hltz : ¬ (k : Int) < (M : Int) := by omega
        have hge : (M : Int) ≤ (k : Int) := by omega
        go_wp2_with fail
        go_ret
        have ht := HI.out.1
        rw [List.take_of_length_le (by have := HS.out.2.1; omega)] at ht
        exact ⟨_, rfl, ht.at, HS.out.2.2.1.trans (HI.out.2.mono HS.out.2.2.1.size)⟩
end Go.Proofs.YtemhfcgkfdklhaaGreatDoor.Look
set_option linter.all false
namespace Go.Proofs.YtemhfcgkfdklhaaGreatDoor.Look
open Go Go.RowKit Go.Shelf Go.Proofs Go.Proofs.YtemhfcgkfdklhaaGreatDoor.Rd

theorem textsF_ok {f : Fld} (h : Small f) : ∀ l ∈ textsF f, OkT l := by
  intro l hl
  unfold textsF at hl
  split at hl
  · simp at hl
    rw [hl]; exact h.1
  · exact h.2.2 l hl
theorem textsF_len {f : Fld} (h : Small f) : (textsF f).length ≤ 1000000 := by
  unfold textsF
  split
  · simp
  · exact h.2.1

set_option maxHeartbeats 8000000 in
set_option maxRecDepth 100000 in
theorem cEveryM (w : World) (hT : Tabs w) (v : Value) (ls : List (List Int)) (h : TextsAt w v ls) (hn : ls.length ≤ 1000000) (hl : ∀ l ∈ ls, OkT l) :
    Calls Tryz.prog 26 #[v, .func (.func 28) #[] #[]] w fun e w' => e = .returned (.bool (ls.all mV)) ∧ Below w.heap.size w w' := by
  obtain ⟨a, c, rfl, h2⟩ := h
  obtain ⟨M, hM⟩ : ∃ M, M = ls.length := ⟨_, rfl⟩
  rw [← hM] at hn ⊢
  have HS : Aside (M = ls.length ∧ (∀ l ∈ ls, OkT l) ∧ (ls ≠ [] → ∃ b off, a = some ⟨b, off, none⟩ ∧ b < w.heap.size ∧ ∀ k l, ls[k]? = some l → ∃ u, w.cell? ⟨b, off + k, none⟩ = some u ∧ TextV w u l)) := ⟨hM, hl, h2⟩
  have hMz : (M : Int) ≤ 1000000 := by omega
  obtain ⟨res, hres⟩ : ∃ r, r = ls.all mV := ⟨_, rfl⟩
  rw [← hres]
  have HR : Aside (res = ls.all mV) := hres
  have HCK : Hid (∀ X a' c' l, Below w.heap.size w X → TextV X (.slice a' l.length c') l → OkT l → Calls Tryz.prog 28 #[.slice a' l.length c'] X fun e w' => e = .returned (.bool (mV l)) ∧ Below X.heap.size X w') := by
    intro X a' c' l hX ht ho
    obtain ⟨a2, c2, e, k1, k2, k3, k4⟩ := ht
    injection e with e1 e2 e3
    subst e1 e3
    exact cIsM X (hT.below hX) _ _ l k1 k2 k3 (by have := ho.1; omega) ho.2
  clear hres hM hl h2
  go_enter Tryz.func26, Tryz.ntmps26
  go_wp2_with fail
  go_loopg [6, 9] M (fun g v6 v9 wr => ∃ k : Nat, v9 = .int .i64 (k : Int) ∧ k ≤ M ∧ M - k ≤ g ∧ Aside ((ls.take k).all mV = true ∧ Below w.heap.size w wr))
  case atStart => exact ⟨0, rfl, by omega, by omega, rfl, Below.refl _ _⟩
  case round =>
    obtain ⟨k, rfl, hk, hg1, HI⟩ := hrel
    by_cases hlt : k < M
    · have hltz : (k : Int) < (M : Int) := by omega
      have hk0 : (0 : Int) ≤ (k : Int) := by omega
      have hkl : k < ls.length := by have := HS.out.1; omega
      obtain ⟨b, off, rfl, hb, hcs⟩ := HS.out.2.2 (fun e => by rw [e] at hkl; simp at hkl)
      obtain ⟨u, c0, hu⟩ := hcs k ls[k] (List.getElem?_eq_getElem hkl)
      obtain ⟨l, hle⟩ : ∃ l, l = ls[k] := ⟨_, rfl⟩
      rw [← hle] at hu
      have hst : ls.take (k + 1) = ls.take k ++ [l] := by rw [hle, List.take_add_one, List.getElem?_eq_getElem hkl]; rfl
      have hmem : l ∈ ls := by rw [hle]; exact List.getElem_mem hkl
      have huw := hu.below HI.out.2
      obtain ⟨ua, uc, rfl, hu2⟩ := hu
      have d0 : wr.cell? ⟨b, off + k, none⟩ = some (.slice ua l.length uc) := (HI.out.2.cell (p := ⟨b, off + k, none⟩) hb).trans c0
      have HC : Hid (Calls Tryz.prog 28 #[.slice ua l.length uc] wr fun e w' => e = .returned (.bool (mV l)) ∧ Below wr.heap.size wr w') := HCK.out wr ua uc l HI.out.2 huw (HS.out.2.1 l hmem)
      have HL : Aside (ls.take (k + 1) = ls.take k ++ [l] ∧ l ∈ ls) := ⟨hst, hmem⟩
      obtain ⟨NL, hNL⟩ : ∃ z, z = l.length := ⟨_, rfl⟩
      rw [← hNL] at HC d0
      clear c0 hle hst huw hu2 hcs hkl hNL hmem
      cases hp : mV l with
      | true =>
        rw [hp] at HC
        have HP : Aside (mV l = true) := hp
        clear hp
        go_wp2_with (go_at_call 28; refine HC.out.mono ?_; rintro e w2 ⟨rfl, hb2⟩; clear HC)
        go_roundg (M - (k + 1))
        case measure => omega
        case rel => exact ⟨k + 1, by first | rfl | go_num, by omega, by omega, by rw [HL.out.1, List.all_append, HI.out.1]; simp [HP.out], HI.out.2.trans (hb2.mono HI.out.2.size)⟩
      | false =>
        rw [hp] at HC
        have HP : Aside (mV l = false) := hp
        clear hp
        go_wp2_with (go_at_call 28; refine HC.out.mono ?_; rintro e w2 ⟨rfl, hb2⟩; clear HC)
        go_ret
        have hr : res = false := by
          rw [HR.out]
          exact Bool.eq_false_iff.2 fun hall => by
            have := List.all_eq_true.1 hall l HL.out.2
            rw [HP.out] at this
            cases this
        refine ⟨by rw [hr]; rfl, HI.out.2.trans (hb2.mono HI.out.2.size)⟩
    · have hltz : ¬ (k : Int) < (M : Int) := by omega
      have hge : (M : Int) ≤ (k : Int) := by omega
      have hr : Aside (res = true) := by
        show res = true
        have := HI.out.1
        rw [List.take_of_length_le (by have := HS.out.1; omega)] at this
        rw [HR.out]; exact this
      go_wp2_with fail
      go_ret
      exact ⟨by rw [hr.out]; rfl, HI.out.2⟩

set_option maxHeartbeats 8000000 in
set_option maxRecDepth 100000 in
theorem cEveryU (w : World) (v : Value) (ls : List (List Int)) (h : TextsAt w v ls) (hn : ls.length ≤ 1000000) (hl : ∀ l ∈ ls, OkT l) :
    Calls Tryz.prog 26 #[v, .func (.func 29) #[] #[]] w fun e w' => e = .returned (.bool (ls.all uV)) ∧ Below w.heap.size w w' := by
  obtain ⟨a, c, rfl, h2⟩ := h
  obtain ⟨M, hM⟩ : ∃ M, M = ls.length := ⟨_, rfl⟩
  rw [← hM] at hn ⊢
  have HS : Aside (M = ls.length ∧ (∀ l ∈ ls, OkT l) ∧ (ls ≠ [] → ∃ b off, a = some ⟨b, off, none⟩ ∧ b < w.heap.size ∧ ∀ k l, ls[k]? = some l → ∃ u, w.cell? ⟨b, off + k, none⟩ = some u ∧ TextV w u l)) := ⟨hM, hl, h2⟩
  have hMz : (M : Int) ≤ 1000000 := by omega
  obtain ⟨res, hres⟩ : ∃ r, r = ls.all uV := ⟨_, rfl⟩
  rw [← hres]
  have HR : Aside (res = ls.all uV) := hres
  have HCK : Hid (∀ X a' c' l, Below w.heap.size w X → TextV X (.slice a' l.length c') l → OkT l → Calls Tryz.prog 29 #[.slice a' l.length c'] X fun e w' => e = .returned (.bool (uV l)) ∧ Below X.heap.size X w') := by
    intro X a' c' l hX ht ho
    obtain ⟨a2, c2, e, k1, k2, k3, k4⟩ := ht
    injection e with e1 e2 e3
    subst e1 e3
    exact cIsU X _ _ l k1 k2 k3 (by have := ho.1; omega)
  clear hres hM hl h2
  go_enter Tryz.func26, Tryz.ntmps26
  go_wp2_with fail
  go_loopg [6, 9] M (fun g v6 v9 wr => ∃ k : Nat, v9 = .int .i64 (k : Int) ∧ k ≤ M ∧ M - k ≤ g ∧ Aside ((ls.take k).all uV = true ∧ Below w.heap.size w wr))
  case atStart => exact ⟨0, rfl, by omega, by omega, rfl, Below.refl _ _⟩
  case round =>
    obtain ⟨k, rfl, hk, hg1, HI⟩ := hrel
    by_cases hlt : k < M
    · have hltz : (k : Int) < (M : Int) := by omega
      have hk0 : (0 : Int) ≤ (k : Int) := by omega
      have hkl : k < ls.length := by have := HS.out.1; omega
      obtain ⟨b, off, rfl, hb, hcs⟩ := HS.out.2.2 (fun e => by rw [e] at hkl; simp at hkl)
      obtain ⟨u, c0, hu⟩ := hcs k ls[k] (List.getElem?_eq_getElem hkl)
      obtain ⟨l, hle⟩ : ∃ l, l = ls[k] := ⟨_, rfl⟩
      rw [← hle] at hu
      have hst : ls.take (k + 1) = ls.take k ++ [l] := by rw [hle, List.take_add_one, List.getElem?_eq_getElem hkl]; rfl
      have hmem : l ∈ ls := by rw [hle]; exact List.getElem_mem hkl
      have huw := hu.below HI.out.2
      obtain ⟨ua, uc, rfl, hu2⟩ := hu
      have d0 : wr.cell? ⟨b, off + k, none⟩ = some (.slice ua l.length uc) := (HI.out.2.cell (p := ⟨b, off + k, none⟩) hb).trans c0
      have HC : Hid (Calls Tryz.prog 29 #[.slice ua l.length uc] wr fun e w' => e = .returned (.bool (uV l)) ∧ Below wr.heap.size wr w') := HCK.out wr ua uc l HI.out.2 huw (HS.out.2.1 l hmem)
      have HL : Aside (ls.take (k + 1) = ls.take k ++ [l] ∧ l ∈ ls) := ⟨hst, hmem⟩
      obtain ⟨NL, hNL⟩ : ∃ z, z = l.length := ⟨_, rfl⟩
      rw [← hNL] at HC d0
      clear c0 hle hst huw hu2 hcs hkl hNL hmem
      cases hp : uV l with
      | true =>
        rw [hp] at HC
        have HP : Aside (uV l = true) := hp
        clear hp
        go_wp2_with (go_at_call 29; refine HC.out.mono ?_; rintro e w2 ⟨rfl, hb2⟩; clear HC)
        go_roundg (M - (k + 1))
        case measure => omega
        case rel => exact ⟨k + 1, by first | rfl | go_num, by omega, by omega, by rw [HL.out.1, List.all_append, HI.out.1]; simp [HP.out], HI.out.2.trans (hb2.mono HI.out.2.size)⟩
      | false =>
        rw [hp] at HC
        have HP : Aside (uV l = false) := hp
        clear hp
        go_wp2_with (go_at_call 29; refine HC.out.mono ?_; rintro e w2 ⟨rfl, hb2⟩; clear HC)
        go_ret
        have hr : res = false := by
          rw [HR.out]
          exact Bool.eq_false_iff.2 fun hall => by
            have := List.all_eq_true.1 hall l HL.out.2
            rw [HP.out] at this
            cases this
        refine ⟨by rw [hr]; rfl, HI.out.2.trans (hb2.mono HI.out.2.size)⟩
    · have hltz : ¬ (k : Int) < (M : Int) := by omega
      have hge : (M : Int) ≤ (k : Int) := by omega
      have hr : Aside (res = true) := by
        show res = true
        have := HI.out.1
        rw [List.take_of_length_le (by have := HS.out.1; omega)] at this
        rw [HR.out]; exact this
      go_wp2_with fail
      go_ret
      exact ⟨by rw [hr.out]; rfl, HI.out.2⟩
end Go.Proofs.YtemhfcgkfdklhaaGreatDoor.Look
set_option linter.all false
namespace Go.Proofs.YtemhfcgkfdklhaaGreatDoor.Look
open Go Go.RowKit Go.Shelf Go.Proofs Go.Proofs.YtemhfcgkfdklhaaGreatDoor.Rd

/-- A row of fields. -/
def FieldsAt (w : World) (v : Value) (fs : List Fld) : Prop := ∃ a c, v = .slice a fs.length c ∧ (fs ≠ [] → ∃ b off, a = some ⟨b, off, none⟩ ∧ b < w.heap.size ∧ ∀ k f, fs[k]? = some f → ∃ vt i0 i1 vs, w.cell? ⟨b, off + k * 5, none⟩ = some (.string f.tag) ∧ w.cell? ⟨b, off + k * 5 + 1, none⟩ = some vt ∧ w.cell? ⟨b, off + k * 5 + 2, none⟩ = some (.int .u8 i0) ∧ w.cell? ⟨b, off + k * 5 + 3, none⟩ = some (.int .u8 i1) ∧ w.cell? ⟨b, off + k * 5 + 4, none⟩ = some vs ∧ TextV w vt f.text ∧ SubsAt w vs f.subs)
theorem FieldsAt.below {w w' : World} {v : Value} {s : List Fld} (h : FieldsAt w v s) (hb : Below w.heap.size w w') : FieldsAt w' v s := by
  obtain ⟨a, c, h1, h2⟩ := h
  refine ⟨a, c, h1, fun hne => ?_⟩
  obtain ⟨b, off, h3, h4, h5⟩ := h2 hne
  refine ⟨b, off, h3, Nat.lt_of_lt_of_le h4 hb.size, fun k f hk => ?_⟩
  obtain ⟨vt, i0, i1, vs, k1, k2, k3, k4, k5, k6, k7⟩ := h5 k f hk
  have hc : ∀ o, w'.cell? ⟨b, o, none⟩ = w.cell? ⟨b, o, none⟩ := fun o => hb.cell (p := ⟨b, o, none⟩) h4
  exact ⟨vt, i0, i1, vs, (hc _).trans k1, (hc _).trans k2, (hc _).trans k3, (hc _).trans k4, (hc _).trans k5, k6.below hb, k7.below hb⟩
theorem FldV.below {w w' : World} {v : Value} {f : Fld} (h : FldV w v f) (hb : Below w.heap.size w w') : FldV w' v f := by
  obtain ⟨vt, i0, i1, vs, h1, h2, h3⟩ := h
  exact ⟨vt, i0, i1, vs, h1, h2.below hb, h3.below hb⟩
theorem one_box (W : World) (v : Value) (t : TypeId) : (W.alloc (.cells #[v] t)).cell? ⟨W.heap.size, 0, none⟩ = some v := cells_one W v t
theorem five (W : World) (a b c d e : Value) (t : TypeId) : ∀ j, (W.alloc (.cells #[a, b, c, d, e] t)).cell? ⟨W.heap.size, j, none⟩ = #[a, b, c, d, e][j]? := by
  intro j
  have hx : (W.alloc (.cells #[a, b, c, d, e] t)).heap[W.heap.size]? = some (.cells #[a, b, c, d, e] t) := (MapKept.heap_alloc W _).1
  unfold World.cell?
  simp only [hx]
  rfl

set_option maxHeartbeats 8000000 in
set_option maxRecDepth 100000 in
theorem cInM (w : World) (hT : Tabs w) (v : Value) (f : Fld) (kb : Nat) (h : FldV w v f) (hs : Small f) (hk : w.cell? ⟨kb, 0, none⟩ = some (.func (.func 28) #[] #[])) :
    Calls Tryz.prog 25 #[v, .pointer (some ⟨kb, 0, none⟩)] w fun e w' => e = .returned (.bool ((textsF f).all mV)) ∧ Below w.heap.size w w' := by
  have hkl : kb < w.heap.size := World.block_lt_of_cell? w ⟨kb, 0, none⟩ hk
  obtain ⟨vt, i0, i1, vs, rfl, hvt, hvs⟩ := h
  obtain ⟨sa, sc, hvs1, hvs2⟩ := hvs
  obtain ⟨ta, tc, hvt1, hvt2⟩ := hvt
  obtain ⟨M, hM⟩ : ∃ M, M = f.subs.length := ⟨_, rfl⟩
  obtain ⟨T, hT'⟩ : ∃ T, T = f.text.length := ⟨_, rfl⟩
  obtain ⟨tag, htag⟩ : ∃ t, t = f.tag := ⟨_, rfl⟩
  have hV : FldV w (.agg #[.string tag, .slice ta T tc, .int .u8 i0, .int .u8 i1, .slice sa M sc]) f := ⟨_, i0, i1, _, by rw [htag], ⟨ta, tc, by rw [hT'], hvt2⟩, ⟨sa, sc, by rw [hM], hvs2⟩⟩
  rw [← hM] at hvs1
  rw [← hT'] at hvt1
  subst hvs1 hvt1
  rw [← htag]
  obtain ⟨W1, hW1⟩ : ∃ W1, W1 = (w.alloc (.cells #[.string tag, .slice ta T tc, .int .u8 i0, .int .u8 i1, .slice sa M sc] 48)).drew := ⟨_, rfl⟩
  have hb1 : Below w.heap.size w W1 := by rw [hW1]; exact ((Below.refl _ w).alloc (Nat.le_refl _) _).drew
  have hfive : ∀ j, W1.cell? ⟨w.heap.size, j, none⟩ = #[.string tag, .slice ta T tc, .int .u8 i0, .int .u8 i1, .slice sa M sc][j]? := by rw [hW1]; exact five w _ _ _ _ _ _
  have e0 := hfive 0
  have e1 := hfive 1
  have e2 := hfive 2
  have e3 := hfive 3
  have e4 := hfive 4
  simp only [List.getElem?_toArray, List.getElem?_cons_zero, List.getElem?_cons_succ] at e0 e1 e2 e3 e4
  have bl : w.heap.size < W1.heap.size := World.block_lt_of_cell? W1 ⟨w.heap.size, 0, none⟩ e0
  have kc : W1.cell? ⟨kb, 0, none⟩ = some (.func (.func 28) #[] #[]) := (hb1.cell (p := ⟨kb, 0, none⟩) hkl).trans hk
  have kl : kb < W1.heap.size := Nat.lt_of_lt_of_le hkl hb1.size
  have HB1 : Aside (Below w.heap.size w W1) := hb1
  have HT1 : Hid (∀ X, Below W1.heap.size W1 X → Calls Tryz.prog 27 #[.agg #[.string tag, .slice ta T tc, .int .u8 i0, .int .u8 i1, .slice sa M sc]] X fun e w' => ∃ v', e = .returned v' ∧ Aside (TextsAt w' v' (textsF f) ∧ Below X.heap.size X w')) := fun X hX => cTexts X _ f (hV.below (hb1.trans (hX.mono hb1.size))) hs
  have HE : Hid (∀ X v1, Below W1.heap.size W1 X → TextsAt X v1 (textsF f) → Calls Tryz.prog 26 #[v1, .func (.func 28) #[] #[]] X fun e w' => e = .returned (.bool ((textsF f).all mV)) ∧ Below X.heap.size X w') := fun X v1 hX h1 => cEveryM X (hT.below (hb1.trans (hX.mono hb1.size))) v1 _ h1 (textsF_len hs) (textsF_ok hs)
  obtain ⟨res, hres⟩ : ∃ r, r = (textsF f).all mV := ⟨_, rfl⟩
  rw [← hres] at HE ⊢
  clear hres hV hvt2 hvs2 hM hT' htag hfive hb1 hk hkl
  go_enter Tryz.func25, Tryz.ntmps25
  go_wp2_with fail
  refine wp_region_held_drew (S := fun w' => Below W1.heap.size W1 w') (by kernel_rfl) (by rw [← hW1]; exact Below.refl _ _) (fun hHeld => ?_)
  rw [← hW1] at hHeld ⊢
  replace hW1 := Lib.hid hW1
  refine wpAnyH_take (i := 0) (v := ?v0_1) rfl (by kernel_rfl) (by kernel_rfl) (by kernel_rfl) (fun _ _ _ h => h) (Or.inl ⟨by kernel_rfl, ?h0_1⟩) hHeld ?r0_1
  case h0_1 => (rintro w' hb; have q0 := (hb.cell (p := ⟨w.heap.size, 0, none⟩) bl).trans e0; have q1 := (hb.cell (p := ⟨w.heap.size, 1, none⟩) bl).trans e1; have q2 := (hb.cell (p := ⟨w.heap.size, 2, none⟩) bl).trans e2; have q3 := (hb.cell (p := ⟨w.heap.size, 3, none⟩) bl).trans e3; have q4 := (hb.cell (p := ⟨w.heap.size, 4, none⟩) bl).trans e4; have q5 := (hb.cell (p := ⟨kb, 0, none⟩) kl).trans kc; go_simp; try (with_reducible rfl))
  try simp only [Act.put, List.getElem_toArray, List.getElem_cons_zero, List.getElem_cons_succ, List.setIfInBounds_toArray, List.set_cons_zero, List.set_cons_succ]
  refine wpAnyH_take (i := 2) (v := ?v2_2) rfl (by kernel_rfl) (by kernel_rfl) (by kernel_rfl) (fun _ _ _ h => h) (Or.inl ⟨by kernel_rfl, ?h2_2⟩) hHeld ?r2_2
  case h2_2 => (rintro w' hb; have q0 := (hb.cell (p := ⟨w.heap.size, 0, none⟩) bl).trans e0; have q1 := (hb.cell (p := ⟨w.heap.size, 1, none⟩) bl).trans e1; have q2 := (hb.cell (p := ⟨w.heap.size, 2, none⟩) bl).trans e2; have q3 := (hb.cell (p := ⟨w.heap.size, 3, none⟩) bl).trans e3; have q4 := (hb.cell (p := ⟨w.heap.size, 4, none⟩) bl).trans e4; have q5 := (hb.cell (p := ⟨kb, 0, none⟩) kl).trans kc; go_simp; try (with_reducible rfl))
  try simp only [Act.put, List.getElem_toArray, List.getElem_cons_zero, List.getElem_cons_succ, List.setIfInBounds_toArray, List.set_cons_zero, List.set_cons_succ]
  refine wpAnyH_ready (rs := [1]) (by kernel_rfl) (by simp) ?_
  refine AllReadyH.cons (o := { dst := some 5, op := Op.call { callee := Callee.value (Operand.func 27), args := #[Operand.tmp 4], argTypes := #[48] }, type := 69, pos := "detect.go:36", after := #[{ on := 0, ground := Ground.data }], guard := none }) rfl (fun K hK => ?_) AllReadyH.nil
  go_simp
  refine (HT1.out _ hHeld).mono ?_
  rintro e X2 ⟨v1, rfl, hA2⟩
  refine hK.out _ _ (hHeld.trans (hA2.out.2.mono hHeld.size)) (fun hH2 => ?_)
  clear hK K
  try simp only [Act.put, List.getElem_toArray, List.getElem_cons_zero, List.getElem_cons_succ, List.setIfInBounds_toArray, List.set_cons_zero, List.set_cons_succ]
  refine wpAnyH_ready (rs := [3]) (by kernel_rfl) (by simp) ?_
  refine AllReadyH.cons (o := { dst := some 7, op := Op.call { callee := Callee.value (Operand.func 26), args := #[Operand.tmp 5, Operand.tmp 6], argTypes := #[69, 66] }, type := 4, pos := "detect.go:36", after := #[{ on := 1, ground := Ground.data }, { on := 2, ground := Ground.data }, { on := 1, ground := Ground.chain }], guard := none }) rfl (fun K hK => ?_) AllReadyH.nil
  go_simp
  refine (HE.out _ _ hH2 hA2.out.1).mono ?_
  rintro e X3 ⟨rfl, hb3⟩
  refine hK.out _ _ (hH2.trans (hb3.mono hH2.size)) (fun hH3 => ?_)
  clear hK K
  try simp only [Act.put, List.getElem_toArray, List.getElem_cons_zero, List.getElem_cons_succ, List.setIfInBounds_toArray, List.set_cons_zero, List.set_cons_succ]
  refine wpAnyH_take (i := 4) (v := ?v4_3) rfl (by kernel_rfl) (by kernel_rfl) (by kernel_rfl) (fun _ _ _ h => h) (Or.inl ⟨by kernel_rfl, ?h4_3⟩) hH3 ?r4_3
  case h4_3 => (rintro w' hb; go_simp; try (with_reducible rfl))
  try simp only [Act.put, List.getElem_toArray, List.getElem_cons_zero, List.getElem_cons_succ, List.setIfInBounds_toArray, List.set_cons_zero, List.set_cons_succ]
  refine wpAnyH_done (by kernel_rfl) ?_ _
  try simp only [Act.put, List.getElem_toArray, List.getElem_cons_zero, List.getElem_cons_succ, List.setIfInBounds_toArray, List.set_cons_zero, List.set_cons_succ]
  go_wp2_with fail
  go_ret
  exact ⟨rfl, HB1.out.trans (hH3.mono HB1.out.size)⟩

set_option maxHeartbeats 8000000 in
set_option maxRecDepth 100000 in
theorem cInU (w : World) (v : Value) (f : Fld) (kb : Nat) (h : FldV w v f) (hs : Small f) (hk : w.cell? ⟨kb, 0, none⟩ = some (.func (.func 29) #[] #[])) :
    Calls Tryz.prog 25 #[v, .pointer (some ⟨kb, 0, none⟩)] w fun e w' => e = .returned (.bool ((textsF f).all uV)) ∧ Below w.heap.size w w' := by
  have hkl : kb < w.heap.size := World.block_lt_of_cell? w ⟨kb, 0, none⟩ hk
  obtain ⟨vt, i0, i1, vs, rfl, hvt, hvs⟩ := h
  obtain ⟨sa, sc, hvs1, hvs2⟩ := hvs
  obtain ⟨ta, tc, hvt1, hvt2⟩ := hvt
  obtain ⟨M, hM⟩ : ∃ M, M = f.subs.length := ⟨_, rfl⟩
  obtain ⟨T, hT'⟩ : ∃ T, T = f.text.length := ⟨_, rfl⟩
  obtain ⟨tag, htag⟩ : ∃ t, t = f.tag := ⟨_, rfl⟩
  have hV : FldV w (.agg #[.string tag, .slice ta T tc, .int .u8 i0, .int .u8 i1, .slice sa M sc]) f := ⟨_, i0, i1, _, by rw [htag], ⟨ta, tc, by rw [hT'], hvt2⟩, ⟨sa, sc, by rw [hM], hvs2⟩⟩
  rw [← hM] at hvs1
  rw [← hT'] at hvt1
  subst hvs1 hvt1
  rw [← htag]
  obtain ⟨W1, hW1⟩ : ∃ W1, W1 = (w.alloc (.cells #[.string tag, .slice ta T tc, .int .u8 i0, .int .u8 i1, .slice sa M sc] 48)).drew := ⟨_, rfl⟩
  have hb1 : Below w.heap.size w W1 := by rw [hW1]; exact ((Below.refl _ w).alloc (Nat.le_refl _) _).drew
  have hfive : ∀ j, W1.cell? ⟨w.heap.size, j, none⟩ = #[.string tag, .slice ta T tc, .int .u8 i0, .int .u8 i1, .slice sa M sc][j]? := by rw [hW1]; exact five w _ _ _ _ _ _
  have e0 := hfive 0
  have e1 := hfive 1
  have e2 := hfive 2
  have e3 := hfive 3
  have e4 := hfive 4
  simp only [List.getElem?_toArray, List.getElem?_cons_zero, List.getElem?_cons_succ] at e0 e1 e2 e3 e4
  have bl : w.heap.size < W1.heap.size := World.block_lt_of_cell? W1 ⟨w.heap.size, 0, none⟩ e0
  have kc : W1.cell? ⟨kb, 0, none⟩ = some (.func (.func 29) #[] #[]) := (hb1.cell (p := ⟨kb, 0, none⟩) hkl).trans hk
  have kl : kb < W1.heap.size := Nat.lt_of_lt_of_le hkl hb1.size
  have HB1 : Aside (Below w.heap.size w W1) := hb1
  have HT1 : Hid (∀ X, Below W1.heap.size W1 X → Calls Tryz.prog 27 #[.agg #[.string tag, .slice ta T tc, .int .u8 i0, .int .u8 i1, .slice sa M sc]] X fun e w' => ∃ v', e = .returned v' ∧ Aside (TextsAt w' v' (textsF f) ∧ Below X.heap.size X w')) := fun X hX => cTexts X _ f (hV.below (hb1.trans (hX.mono hb1.size))) hs
  have HE : Hid (∀ X v1, Below W1.heap.size W1 X → TextsAt X v1 (textsF f) → Calls Tryz.prog 26 #[v1, .func (.func 29) #[] #[]] X fun e w' => e = .returned (.bool ((textsF f).all uV)) ∧ Below X.heap.size X w') := fun X v1 hX h1 => cEveryU X v1 _ h1 (textsF_len hs) (textsF_ok hs)
  obtain ⟨res, hres⟩ : ∃ r, r = (textsF f).all uV := ⟨_, rfl⟩
  rw [← hres] at HE ⊢
  clear hres hV hvt2 hvs2 hM hT' htag hfive hb1 hk hkl
  go_enter Tryz.func25, Tryz.ntmps25
  go_wp2_with fail
  refine wp_region_held_drew (S := fun w' => Below W1.heap.size W1 w') (by kernel_rfl) (by rw [← hW1]; exact Below.refl _ _) (fun hHeld => ?_)
  rw [← hW1] at hHeld ⊢
  replace hW1 := Lib.hid hW1
  refine wpAnyH_take (i := 0) (v := ?v0_4) rfl (by kernel_rfl) (by kernel_rfl) (by kernel_rfl) (fun _ _ _ h => h) (Or.inl ⟨by kernel_rfl, ?h0_4⟩) hHeld ?r0_4
  case h0_4 => (rintro w' hb; have q0 := (hb.cell (p := ⟨w.heap.size, 0, none⟩) bl).trans e0; have q1 := (hb.cell (p := ⟨w.heap.size, 1, none⟩) bl).trans e1; have q2 := (hb.cell (p := ⟨w.heap.size, 2, none⟩) bl).trans e2; have q3 := (hb.cell (p := ⟨w.heap.size, 3, none⟩) bl).trans e3; have q4 := (hb.cell (p := ⟨w.heap.size, 4, none⟩) bl).trans e4; have q5 := (hb.cell (p := ⟨kb, 0, none⟩) kl).trans kc; go_simp; try (with_reducible rfl))
  try simp only [Act.put, List.getElem_toArray, List.getElem_cons_zero, List.getElem_cons_succ, List.setIfInBounds_toArray, List.set_cons_zero, List.set_cons_succ]
  refine wpAnyH_take (i := 2) (v := ?v2_5) rfl (by kernel_rfl) (by kernel_rfl) (by kernel_rfl) (fun _ _ _ h => h) (Or.inl ⟨by kernel_rfl, ?h2_5⟩) hHeld ?r2_5
  case h2_5 => (rintro w' hb; have q0 := (hb.cell (p := ⟨w.heap.size, 0, none⟩) bl).trans e0; have q1 := (hb.cell (p := ⟨w.heap.size, 1, none⟩) bl).trans e1; have q2 := (hb.cell (p := ⟨w.heap.size, 2, none⟩) bl).trans e2; have q3 := (hb.cell (p := ⟨w.heap.size, 3, none⟩) bl).trans e3; have q4 := (hb.cell (p := ⟨w.heap.size, 4, none⟩) bl).trans e4; have q5 := (hb.cell (p := ⟨kb, 0, none⟩) kl).trans kc; go_simp; try (with_reducible rfl))
  try simp only [Act.put, List.getElem_toArray, List.getElem_cons_zero, List.getElem_cons_succ, List.setIfInBounds_toArray, List.set_cons_zero, List.set_cons_succ]
  refine wpAnyH_ready (rs := [1]) (by kernel_rfl) (by simp) ?_
  refine AllReadyH.cons (o := { dst := some 5, op := Op.call { callee := Callee.value (Operand.func 27), args := #[Operand.tmp 4], argTypes := #[48] }, type := 69, pos := "detect.go:36", after := #[{ on := 0, ground := Ground.data }], guard := none }) rfl (fun K hK => ?_) AllReadyH.nil
  go_simp
  refine (HT1.out _ hHeld).mono ?_
  rintro e X2 ⟨v1, rfl, hA2⟩
  refine hK.out _ _ (hHeld.trans (hA2.out.2.mono hHeld.size)) (fun hH2 => ?_)
  clear hK K
  try simp only [Act.put, List.getElem_toArray, List.getElem_cons_zero, List.getElem_cons_succ, List.setIfInBounds_toArray, List.set_cons_zero, List.set_cons_succ]
  refine wpAnyH_ready (rs := [3]) (by kernel_rfl) (by simp) ?_
  refine AllReadyH.cons (o := { dst := some 7, op := Op.call { callee := Callee.value (Operand.func 26), args := #[Operand.tmp 5, Operand.tmp 6], argTypes := #[69, 66] }, type := 4, pos := "detect.go:36", after := #[{ on := 1, ground := Ground.data }, { on := 2, ground := Ground.data }, { on := 1, ground := Ground.chain }], guard := none }) rfl (fun K hK => ?_) AllReadyH.nil
  go_simp
  refine (HE.out _ _ hH2 hA2.out.1).mono ?_
  rintro e X3 ⟨rfl, hb3⟩
  refine hK.out _ _ (hH2.trans (hb3.mono hH2.size)) (fun hH3 => ?_)
  clear hK K
  try simp only [Act.put, List.getElem_toArray, List.getElem_cons_zero, List.getElem_cons_succ, List.setIfInBounds_toArray, List.set_cons_zero, List.set_cons_succ]
  refine wpAnyH_take (i := 4) (v := ?v4_6) rfl (by kernel_rfl) (by kernel_rfl) (by kernel_rfl) (fun _ _ _ h => h) (Or.inl ⟨by kernel_rfl, ?h4_6⟩) hH3 ?r4_6
  case h4_6 => (rintro w' hb; go_simp; try (with_reducible rfl))
  try simp only [Act.put, List.getElem_toArray, List.getElem_cons_zero, List.getElem_cons_succ, List.setIfInBounds_toArray, List.set_cons_zero, List.set_cons_succ]
  refine wpAnyH_done (by kernel_rfl) ?_ _
  try simp only [Act.put, List.getElem_toArray, List.getElem_cons_zero, List.getElem_cons_succ, List.setIfInBounds_toArray, List.set_cons_zero, List.set_cons_succ]
  go_wp2_with fail
  go_ret
  exact ⟨rfl, HB1.out.trans (hH3.mono HB1.out.size)⟩

set_option maxHeartbeats 8000000 in
set_option maxRecDepth 100000 in
theorem cFieldsM (w : World) (hT : Tabs w) (v : Value) (fs : List Fld) (kb : Nat) (h : FieldsAt w v fs) (hn : fs.length ≤ 1000000) (hl : ∀ f ∈ fs, Small f) (hk : w.cell? ⟨kb, 0, none⟩ = some (.func (.func 28) #[] #[])) :
    Calls Tryz.prog 24 #[v, .func (.func 25) #[] #[.pointer (some ⟨kb, 0, none⟩)]] w fun e w' => e = .returned (.bool (fs.all fun f => (textsF f).all mV)) ∧ Below w.heap.size w w' := by
  have hkl : kb < w.heap.size := World.block_lt_of_cell? w ⟨kb, 0, none⟩ hk
  obtain ⟨a, c, rfl, h2⟩ := h
  obtain ⟨M, hM⟩ : ∃ M, M = fs.length := ⟨_, rfl⟩
  rw [← hM] at hn ⊢
  have HS : Aside (M = fs.length ∧ (∀ f ∈ fs, Small f) ∧ (fs ≠ [] → ∃ b off, a = some ⟨b, off, none⟩ ∧ b < w.heap.size ∧ ∀ k f, fs[k]? = some f → ∃ vt i0 i1 vs, w.cell? ⟨b, off + k * 5, none⟩ = some (.string f.tag) ∧ w.cell? ⟨b, off + k * 5 + 1, none⟩ = some vt ∧ w.cell? ⟨b, off + k * 5 + 2, none⟩ = some (.int .u8 i0) ∧ w.cell? ⟨b, off + k * 5 + 3, none⟩ = some (.int .u8 i1) ∧ w.cell? ⟨b, off + k * 5 + 4, none⟩ = some vs ∧ TextV w vt f.text ∧ SubsAt w vs f.subs)) := ⟨hM, hl, h2⟩
  have hMz : (M : Int) ≤ 1000000 := by omega
  have HCK : Hid (∀ X v f, Below w.heap.size w X → FldV X v f → Small f → Calls Tryz.prog 25 #[v, .pointer (some ⟨kb, 0, none⟩)] X fun e w' => e = .returned (.bool ((textsF f).all mV)) ∧ Below X.heap.size X w') := fun X v f hX hv hs => cInM X (hT.below hX) v f kb hv hs ((hX.cell (p := ⟨kb, 0, none⟩) hkl).trans hk)
  obtain ⟨res, hres⟩ : ∃ r, r = fs.all fun f => (textsF f).all mV := ⟨_, rfl⟩
  rw [← hres]
  have HR : Aside (res = fs.all fun f => (textsF f).all mV) := hres
  clear hres hM hl h2 hk hkl
  go_enter Tryz.func24, Tryz.ntmps24
  go_wp2_with fail
  go_loopg [6, 9] M (fun g v6 v9 wr => ∃ k : Nat, v9 = .int .i64 (k : Int) ∧ k ≤ M ∧ M - k ≤ g ∧ Aside (((fs.take k).all fun f => (textsF f).all mV) = true ∧ Below w.heap.size w wr))
  case atStart => exact ⟨0, rfl, by omega, by omega, rfl, Below.refl _ _⟩
  case round =>
    obtain ⟨k, rfl, hk, hg1, HI⟩ := hrel
    by_cases hlt : k < M
    · have hltz : (k : Int) < (M : Int) := by omega
      have hk0 : (0 : Int) ≤ (k : Int) := by omega
      have hkl : k < fs.length := by have := HS.out.1; omega
      obtain ⟨b, off, rfl, hb, hcs⟩ := HS.out.2.2 (fun e => by rw [e] at hkl; simp at hkl)
      obtain ⟨vt, i0, i1, vs, k1, k2, k3, k4, k5, k6, k7⟩ := hcs k fs[k] (List.getElem?_eq_getElem hkl)
      obtain ⟨f, hfe⟩ : ∃ f, f = fs[k] := ⟨_, rfl⟩
      rw [← hfe] at k1 k6 k7
      have hst : fs.take (k + 1) = fs.take k ++ [f] := by rw [hfe, List.take_add_one, List.getElem?_eq_getElem hkl]; rfl
      have hmem : f ∈ fs := by rw [hfe]; exact List.getElem_mem hkl
      have hcw : ∀ o, wr.cell? ⟨b, o, none⟩ = w.cell? ⟨b, o, none⟩ := fun o => HI.out.2.cell (p := ⟨b, o, none⟩) hb
      have d0 := (hcw _).trans k1
      have d1 := (hcw _).trans k2
      have d2 := (hcw _).trans k3
      have d3 := (hcw _).trans k4
      have d4 := (hcw _).trans k5
      obtain ⟨tag, htag⟩ : ∃ t, t = f.tag := ⟨_, rfl⟩
      rw [← htag] at d0
      have hV : FldV w (.agg #[.string tag, vt, .int .u8 i0, .int .u8 i1, vs]) f := ⟨vt, i0, i1, vs, by rw [htag], k6, k7⟩
      obtain ⟨ta, tc, rfl, _⟩ := k6
      obtain ⟨sa, sc, rfl, _⟩ := k7
      obtain ⟨T, hT'⟩ : ∃ z, z = f.text.length := ⟨_, rfl⟩
      obtain ⟨S, hS'⟩ : ∃ z, z = f.subs.length := ⟨_, rfl⟩
      rw [← hT'] at d1 hV
      rw [← hS'] at d4 hV
      have HC : Hid (∀ X, Below wr.heap.size wr X → Calls Tryz.prog 25 #[.agg #[.string tag, .slice ta T tc, .int .u8 i0, .int .u8 i1, .slice sa S sc], .pointer (some ⟨kb, 0, none⟩)] X fun e w' => e = .returned (.bool ((textsF f).all mV)) ∧ Below X.heap.size X w') := fun X hX => by
        have hwX := HI.out.2.trans (hX.mono HI.out.2.size)
        exact HCK.out X _ f hwX (hV.below hwX) (HS.out.2.1 f hmem)
      have HL : Aside (fs.take (k + 1) = fs.take k ++ [f] ∧ f ∈ fs) := ⟨hst, hmem⟩
      clear hcw k1 k2 k3 k4 k5 hfe hst hmem hcs hkl htag hT' hS' hV
      cases hp : (textsF f).all mV with
      | true =>
        rw [hp] at HC
        have HP : Aside ((textsF f).all mV = true) := hp
        clear hp
        go_wp2_with (go_at_call 25; refine (HC.out _ ((Below.refl _ wr).alloc (Nat.le_refl _) _)).mono ?_; rintro e w2 ⟨rfl, hb2⟩; have hB2 : Aside (Below wr.heap.size wr w2) := ((Below.refl _ wr).alloc (Nat.le_refl _) _).trans (hb2.mono (by simp)); clear HC hb2)
        go_roundg (M - (k + 1))
        case measure => omega
        case rel => exact ⟨k + 1, by first | rfl | go_num, by omega, by omega, by rw [HL.out.1, List.all_append, HI.out.1]; simp [HP.out], HI.out.2.trans (hB2.out.mono HI.out.2.size)⟩
      | false =>
        rw [hp] at HC
        have HP : Aside ((textsF f).all mV = false) := hp
        clear hp
        go_wp2_with (go_at_call 25; refine (HC.out _ ((Below.refl _ wr).alloc (Nat.le_refl _) _)).mono ?_; rintro e w2 ⟨rfl, hb2⟩; have hB2 : Aside (Below wr.heap.size wr w2) := ((Below.refl _ wr).alloc (Nat.le_refl _) _).trans (hb2.mono (by simp)); clear HC hb2)
        go_ret
        have hr : res = false := by
          rw [HR.out]
          exact Bool.eq_false_iff.2 fun hall => by
            have := List.all_eq_true.1 hall f HL.out.2
            rw [HP.out] at this
            cases this
        refine ⟨by rw [hr]; rfl, HI.out.2.trans (hB2.out.mono HI.out.2.size)⟩
    · have hltz : ¬ (k : Int) < (M : Int) := by omega
      have hge : (M : Int) ≤ (k : Int) := by omega
      have hr : Aside (res = true) := by
        show res = true
        have := HI.out.1
        rw [List.take_of_length_le (by have := HS.out.1; omega)] at this
        rw [HR.out]; exact this
      go_wp2_with fail
      go_ret
      exact ⟨by rw [hr.out]; rfl, HI.out.2⟩

set_option maxHeartbeats 8000000 in
set_option maxRecDepth 100000 in
theorem cFieldsU (w : World) (v : Value) (fs : List Fld) (kb : Nat) (h : FieldsAt w v fs) (hn : fs.length ≤ 1000000) (hl : ∀ f ∈ fs, Small f) (hk : w.cell? ⟨kb, 0, none⟩ = some (.func (.func 29) #[] #[])) :
    Calls Tryz.prog 24 #[v, .func (.func 25) #[] #[.pointer (some ⟨kb, 0, none⟩)]] w fun e w' => e = .returned (.bool (fs.all fun f => (textsF f).all uV)) ∧ Below w.heap.size w w' := by
  have hkl : kb < w.heap.size := World.block_lt_of_cell? w ⟨kb, 0, none⟩ hk
  obtain ⟨a, c, rfl, h2⟩ := h
  obtain ⟨M, hM⟩ : ∃ M, M = fs.length := ⟨_, rfl⟩
  rw [← hM] at hn ⊢
  have HS : Aside (M = fs.length ∧ (∀ f ∈ fs, Small f) ∧ (fs ≠ [] → ∃ b off, a = some ⟨b, off, none⟩ ∧ b < w.heap.size ∧ ∀ k f, fs[k]? = some f → ∃ vt i0 i1 vs, w.cell? ⟨b, off + k * 5, none⟩ = some (.string f.tag) ∧ w.cell? ⟨b, off + k * 5 + 1, none⟩ = some vt ∧ w.cell? ⟨b, off + k * 5 + 2, none⟩ = some (.int .u8 i0) ∧ w.cell? ⟨b, off + k * 5 + 3, none⟩ = some (.int .u8 i1) ∧ w.cell? ⟨b, off + k * 5 + 4, none⟩ = some vs ∧ TextV w vt f.text ∧ SubsAt w vs f.subs)) := ⟨hM, hl, h2⟩
  have hMz : (M : Int) ≤ 1000000 := by omega
  have HCK : Hid (∀ X v f, Below w.heap.size w X → FldV X v f → Small f → Calls Tryz.prog 25 #[v, .pointer (some ⟨kb, 0, none⟩)] X fun e w' => e = .returned (.bool ((textsF f).all uV)) ∧ Below X.heap.size X w') := fun X v f hX hv hs => cInU X v f kb hv hs ((hX.cell (p := ⟨kb, 0, none⟩) hkl).trans hk)
  obtain ⟨res, hres⟩ : ∃ r, r = fs.all fun f => (textsF f).all uV := ⟨_, rfl⟩
  rw [← hres]
  have HR : Aside (res = fs.all fun f => (textsF f).all uV) := hres
  clear hres hM hl h2 hk hkl
  go_enter Tryz.func24, Tryz.ntmps24
  go_wp2_with fail
  go_loopg [6, 9] M (fun g v6 v9 wr => ∃ k : Nat, v9 = .int .i64 (k : Int) ∧ k ≤ M ∧ M - k ≤ g ∧ Aside (((fs.take k).all fun f => (textsF f).all uV) = true ∧ Below w.heap.size w wr))
  case atStart => exact ⟨0, rfl, by omega, by omega, rfl, Below.refl _ _⟩
  case round =>
    obtain ⟨k, rfl, hk, hg1, HI⟩ := hrel
    by_cases hlt : k < M
    · have hltz : (k : Int) < (M : Int) := by omega
      have hk0 : (0 : Int) ≤ (k : Int) := by omega
      have hkl : k < fs.length := by have := HS.out.1; omega
      obtain ⟨b, off, rfl, hb, hcs⟩ := HS.out.2.2 (fun e => by rw [e] at hkl; simp at hkl)
      obtain ⟨vt, i0, i1, vs, k1, k2, k3, k4, k5, k6, k7⟩ := hcs k fs[k] (List.getElem?_eq_getElem hkl)
      obtain ⟨f, hfe⟩ : ∃ f, f = fs[k] := ⟨_, rfl⟩
      rw [← hfe] at k1 k6 k7
      have hst : fs.take (k + 1) = fs.take k ++ [f] := by rw [hfe, List.take_add_one, List.getElem?_eq_getElem hkl]; rfl
      have hmem : f ∈ fs := by rw [hfe]; exact List.getElem_mem hkl
      have hcw : ∀ o, wr.cell? ⟨b, o, none⟩ = w.cell? ⟨b, o, none⟩ := fun o => HI.out.2.cell (p := ⟨b, o, none⟩) hb
      have d0 := (hcw _).trans k1
      have d1 := (hcw _).trans k2
      have d2 := (hcw _).trans k3
      have d3 := (hcw _).trans k4
      have d4 := (hcw _).trans k5
      obtain ⟨tag, htag⟩ : ∃ t, t = f.tag := ⟨_, rfl⟩
      rw [← htag] at d0
      have hV : FldV w (.agg #[.string tag, vt, .int .u8 i0, .int .u8 i1, vs]) f := ⟨vt, i0, i1, vs, by rw [htag], k6, k7⟩
      obtain ⟨ta, tc, rfl, _⟩ := k6
      obtain ⟨sa, sc, rfl, _⟩ := k7
      obtain ⟨T, hT'⟩ : ∃ z, z = f.text.length := ⟨_, rfl⟩
      obtain ⟨S, hS'⟩ : ∃ z, z = f.subs.length := ⟨_, rfl⟩
      rw [← hT'] at d1 hV
      rw [← hS'] at d4 hV
      have HC : Hid (∀ X, Below wr.heap.size wr X → Calls Tryz.prog 25 #[.agg #[.string tag, .slice ta T tc, .int .u8 i0, .int .u8 i1, .slice sa S sc], .pointer (some ⟨kb, 0, none⟩)] X fun e w' => e = .returned (.bool ((textsF f).all uV)) ∧ Below X.heap.size X w') := fun X hX => by
        have hwX := HI.out.2.trans (hX.mono HI.out.2.size)
        exact HCK.out X _ f hwX (hV.below hwX) (HS.out.2.1 f hmem)
      have HL : Aside (fs.take (k + 1) = fs.take k ++ [f] ∧ f ∈ fs) := ⟨hst, hmem⟩
      clear hcw k1 k2 k3 k4 k5 hfe hst hmem hcs hkl htag hT' hS' hV
      cases hp : (textsF f).all uV with
      | true =>
        rw [hp] at HC
        have HP : Aside ((textsF f).all uV = true) := hp
        clear hp
        go_wp2_with (go_at_call 25; refine (HC.out _ ((Below.refl _ wr).alloc (Nat.le_refl _) _)).mono ?_; rintro e w2 ⟨rfl, hb2⟩; have hB2 : Aside (Below wr.heap.size wr w2) := ((Below.refl _ wr).alloc (Nat.le_refl _) _).trans (hb2.mono (by simp)); clear HC hb2)
        go_roundg (M - (k + 1))
        case measure => omega
        case rel => exact ⟨k + 1, by first | rfl | go_num, by omega, by omega, by rw [HL.out.1, List.all_append, HI.out.1]; simp [HP.out], HI.out.2.trans (hB2.out.mono HI.out.2.size)⟩
      | false =>
        rw [hp] at HC
        have HP : Aside ((textsF f).all uV = false) := hp
        clear hp
        go_wp2_with (go_at_call 25; refine (HC.out _ ((Below.refl _ wr).alloc (Nat.le_refl _) _)).mono ?_; rintro e w2 ⟨rfl, hb2⟩; have hB2 : Aside (Below wr.heap.size wr w2) := ((Below.refl _ wr).alloc (Nat.le_refl _) _).trans (hb2.mono (by simp)); clear HC hb2)
        go_ret
        have hr : res = false := by
          rw [HR.out]
          exact Bool.eq_false_iff.2 fun hall => by
            have := List.all_eq_true.1 hall f HL.out.2
            rw [HP.out] at this
            cases this
        refine ⟨by rw [hr]; rfl, HI.out.2.trans (hB2.out.mono HI.out.2.size)⟩
    · have hltz : ¬ (k : Int) < (M : Int) := by omega
      have hge : (M : Int) ≤ (k : Int) := by omega
      have hr : Aside (res = true) := by
        show res = true
        have := HI.out.1
        rw [List.take_of_length_le (by have := HS.out.1; omega)] at this
        rw [HR.out]; exact this
      go_wp2_with fail
      go_ret
      exact ⟨by rw [hr.out]; rfl, HI.out.2⟩
end Go.Proofs.YtemhfcgkfdklhaaGreatDoor.Look
