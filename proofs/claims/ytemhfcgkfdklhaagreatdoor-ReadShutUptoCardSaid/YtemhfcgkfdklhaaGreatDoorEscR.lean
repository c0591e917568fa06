/- amanuensisref08.Less, Escapes, Designate. -/
import Derived.Test.YtemhfcgkfdklhaaGreatDoorJoinP
import Derived.Lib.ConvBytes
set_option linter.unusedVariables false
namespace Go.Proofs.YtemhfcgkfdklhaaGreatDoor.Look
open Go Go.RowKit Go.Shelf Go.Proofs Go.Proofs.YtemhfcgkfdklhaaGreatDoor.Rd

theorem text_ok {mk : Int → Bool} {T : Tab} {b : List Int} {s : RS} (h : textV mk T b = .ok s) : decodeV mk T b 1 2 = .ok s ∧ s.g0 = 1 ∧ s.g1 = 2 := by
  unfold textV at h
  split at h
  · split at h
    · cases h
    · rename_i s1 hd hg
      injection h with h
      subst h
      exact ⟨hd, Decidable.byContradiction fun e => hg (.inl e), Decidable.byContradiction fun e => hg (.inr e)⟩
  · cases h
/-- The bytes of the shortest escape that makes a set the first side's. -/
def escB (n : Int) : List Int := if n = 1 then [27, 115] else [27, 40, finalV n]
theorem esc_one (mk : Int → Bool) (T : Tab) (n : Int) (hn : 3 ≤ n ∧ n ≤ 8) : decodeV mk T (escB n) 1 2 = .ok ⟨3, n, 2, [], [], 0⟩ := by
  obtain rfl | rfl | rfl | rfl | rfl | rfl : n = 3 ∨ n = 4 ∨ n = 5 ∨ n = 6 ∨ n = 7 ∨ n = 8 := by omega
  all_goals rfl
theorem esc_back (mk : Int → Bool) (T : Tab) (n : Int) (hn : 3 ≤ n ∧ n ≤ 8) : decodeV mk T (escB 1) n 2 = .ok ⟨2, 1, 2, [], [], 0⟩ := by
  obtain rfl | rfl | rfl | rfl | rfl | rfl : n = 3 ∨ n = 4 ∨ n = 5 ∨ n = 6 ∨ n = 7 ∨ n = 8 := by omega
  all_goals rfl
theorem shut_told {mk : Int → Bool} {T : Tab} {b : List Int} {s : RS} (h : textV mk T b = .ok s) (n : Int) (hn : 3 ≤ n ∧ n ≤ 8) : textV mk T (b ++ escB n) = .bad 7 ((b ++ escB n).length : Int) := by
  obtain ⟨h1, h2, h3⟩ := text_ok h
  have hj := decode_joins (b := escB n) h1
  rw [h2, h3, esc_one mk T n hn] at hj
  cases hd : decodeV mk T (b ++ escB n) 1 2 with
  | bad e p => rw [hd] at hj; exact hj.elim
  | ok t =>
    rw [hd] at hj
    have hg : t.g0 = n := hj.g0
    unfold textV
    rw [hd]
    show (if t.g0 ≠ 1 ∨ t.g1 ≠ 2 then Step.bad 7 ((b ++ escB n).length : Int) else Step.ok t) = _
    rw [if_pos (.inl (by omega))]
theorem shut_back {mk : Int → Bool} {T : Tab} {b : List Int} {s : RS} (h : textV mk T b = .ok s) (n : Int) (hn : 3 ≤ n ∧ n ≤ 8) : ∃ t, textV mk T (b ++ escB n ++ escB 1) = .ok t ∧ t.out = s.out := by
  obtain ⟨h1, h2, h3⟩ := text_ok h
  have hj := decode_joins (b := escB n) h1
  rw [h2, h3, esc_one mk T n hn] at hj
  cases hd : decodeV mk T (b ++ escB n) 1 2 with
  | bad e p => rw [hd] at hj; exact hj.elim
  | ok t =>
    rw [hd] at hj
    have hg : t.g0 = n := hj.g0
    have hg1 : t.g1 = 2 := hj.g1
    have ho : t.out = s.out ++ [] := hj.out
    have hk := decode_joins (b := escB 1) hd
    rw [hg, hg1, esc_back mk T n hn] at hk
    cases hu : decodeV mk T (b ++ escB n ++ escB 1) 1 2 with
    | bad e p => rw [hu] at hk; exact hk.elim
    | ok u =>
      rw [hu] at hk
      have k1 : u.g0 = 1 := hk.g0
      have k2 : u.g1 = 2 := hk.g1
      have k3 : u.out = t.out ++ [] := hk.out
      refine ⟨u, ?_, by rw [k3, ho]; simp⟩
      unfold textV
      rw [hu]
      show (if u.g0 ≠ 1 ∨ u.g1 ≠ 2 then Step.bad 7 _ else Step.ok u) = _
      rw [if_neg (fun h => h.elim (fun e => e k1) (fun e => e k2))]
end Go.Proofs.YtemhfcgkfdklhaaGreatDoor.Look
set_option linter.all false
namespace Go.Proofs.YtemhfcgkfdklhaaGreatDoor.Look
open Go Go.RowKit Go.Shelf Go.Proofs Go.Proofs.YtemhfcgkfdklhaaGreatDoor.Rd

def lessL : List Int → List Int → Bool
  | x :: a, y :: b => if x = y then lessL a b else decide (x < y)
  | _, _ => false
def lessV (a b : List Int) : Bool := if a.length = b.length then lessL a b else decide (a.length < b.length)
theorem lessL_drop {a b : List Int} {i : Nat} {x y : Int} (hx : a[i]? = some x) (hy : b[i]? = some y) : lessL (a.drop i) (b.drop i) = if x = y then lessL (a.drop (i + 1)) (b.drop (i + 1)) else decide (x < y) := by
  obtain ⟨h1, e1⟩ := List.getElem?_eq_some_iff.1 hx
  obtain ⟨h2, e2⟩ := List.getElem?_eq_some_iff.1 hy
  rw [List.drop_eq_getElem_cons h1, List.drop_eq_getElem_cons h2, e1, e2]
  rfl

set_option maxHeartbeats 8000000 in
set_option maxRecDepth 100000 in
theorem cLess (a b : Option Addr) (c1 c2 : Nat) (la lb : List Int) (w : World) (ha : RowB w a la) (hb : RowB w b lb) (hna : la.length ≤ 1000000000000) (hnb : lb.length ≤ 1000000000000) :
    Calls Tryz.prog 21 #[.slice a la.length c1, .slice b lb.length c2] w fun e w' => e = .returned (.bool (lessV la lb)) ∧ Below w.heap.size w w' := by
  obtain ⟨N, hN⟩ : ∃ N, N = la.length := ⟨_, rfl⟩
  obtain ⟨M, hM⟩ : ∃ M, M = lb.length := ⟨_, rfl⟩
  rw [← hN] at hna ⊢
  rw [← hM] at hnb ⊢
  have HL : Aside (N = la.length ∧ M = lb.length ∧ RowB w a la ∧ RowB w b lb) := ⟨hN, hM, ha, hb⟩
  clear hN hM ha hb
  by_cases hNM : N = M
  · have hv : lessV la lb = lessL la lb := if_pos (by have := HL.out; omega)
    rw [hv]
    obtain ⟨res, hres⟩ : ∃ r, r = lessL la lb := ⟨_, rfl⟩
    rw [← hres]
    have HR : Aside (res = lessL la lb) := hres
    clear hres hv
    subst hNM
    go_enter Tryz.func21, Tryz.ntmps21
    go_wp2
    go_loopg [5] N (fun g1 vi wr => ∃ (i : Nat), vi = .int .i64 i ∧ i ≤ N ∧ N - i ≤ g1 ∧ Aside (Below w.heap.size w wr ∧ res = lessL (la.drop i) (lb.drop i)))
    case atStart => exact ⟨0, rfl, by omega, by omega, ⟨Below.refl _ _, HR.out⟩⟩
    case round =>
      obtain ⟨i, rfl, hi, hg1, HI⟩ := hrel
      by_cases hlt : i < N
      · have hltz : (i : Int) < (N : Int) := by omega
        have hi0 : (0 : Int) ≤ (i : Int) := by omega
        obtain ⟨x, hx⟩ : ∃ x, la[i]? = some x := ⟨_, List.getElem?_eq_getElem (by have := HL.out; omega)⟩
        obtain ⟨y, hy⟩ : ∃ y, lb[i]? = some y := ⟨_, List.getElem?_eq_getElem (by have := HL.out; omega)⟩
        obtain ⟨b1, o1, rfl, hb1, hc1⟩ := HL.out.2.2.1 (fun e => by rw [e] at hx; simp at hx)
        obtain ⟨b2, o2, rfl, hb2, hc2⟩ := HL.out.2.2.2 (fun e => by rw [e] at hy; simp at hy)
        have l1 : wr.cell? ⟨b1, o1 + i, none⟩ = some (.int .u8 x) := (HI.out.1.cell (p := ⟨b1, o1 + i, none⟩) hb1).trans (hc1 i x hx)
        have l2 : wr.cell? ⟨b2, o2 + i, none⟩ = some (.int .u8 y) := (HI.out.1.cell (p := ⟨b2, o2 + i, none⟩) hb2).trans (hc2 i y hy)
        have HX : Aside (res = if x = y then lessL (la.drop (i + 1)) (lb.drop (i + 1)) else decide (x < y)) := HI.out.2.trans (lessL_drop hx hy)
        clear hx hy hc1 hc2
        go_wp2
        refine wp_region_held_drew (S := fun w' => w'.cell? ⟨b1, o1 + i, none⟩ = some (.int .u8 x) ∧ w'.cell? ⟨b2, o2 + i, none⟩ = some (.int .u8 y)) (by kernel_rfl) ⟨l1, l2⟩ (fun hHeld => ?_)
        refine wpAnyH_take (i := 0) (v := ?v0_1) rfl (by kernel_rfl) (by kernel_rfl) (by kernel_rfl) (fun _ _ _ h => h) (Or.inl ⟨by kernel_rfl, ?h0_1⟩) hHeld ?r0_1
        case h0_1 => (rintro w' ⟨q0, q1⟩; go_simp; try (with_reducible rfl))
        try simp only [Act.put, List.getElem_toArray, List.getElem_cons_zero, List.getElem_cons_succ, List.setIfInBounds_toArray, List.set_cons_zero, List.set_cons_succ]
        refine wpAnyH_take (i := 1) (v := ?v1_2) rfl (by kernel_rfl) (by kernel_rfl) (by kernel_rfl) (fun _ _ _ h => h) (Or.inl ⟨by kernel_rfl, ?h1_2⟩) hHeld ?r1_2
        case h1_2 => (rintro w' ⟨q0, q1⟩; go_simp; try (with_reducible rfl))
        try simp only [Act.put, List.getElem_toArray, List.getElem_cons_zero, List.getElem_cons_succ, List.setIfInBounds_toArray, List.set_cons_zero, List.set_cons_succ]
        refine wpAnyH_take (i := 2) (v := ?v2_3) rfl (by kernel_rfl) (by kernel_rfl) (by kernel_rfl) (fun _ _ _ h => h) (Or.inl ⟨by kernel_rfl, ?h2_3⟩) hHeld ?r2_3
        case h2_3 => (rintro w' ⟨q0, q1⟩; go_simp; try (with_reducible rfl))
        try simp only [Act.put, List.getElem_toArray, List.getElem_cons_zero, List.getElem_cons_succ, List.setIfInBounds_toArray, List.set_cons_zero, List.set_cons_succ]
        refine wpAnyH_take (i := 3) (v := ?v3_4) rfl (by kernel_rfl) (by kernel_rfl) (by kernel_rfl) (fun _ _ _ h => h) (Or.inl ⟨by kernel_rfl, ?h3_4⟩) hHeld ?r3_4
        case h3_4 => (rintro w' ⟨q0, q1⟩; go_simp; try (with_reducible rfl))
        try simp only [Act.put, List.getElem_toArray, List.getElem_cons_zero, List.getElem_cons_succ, List.setIfInBounds_toArray, List.set_cons_zero, List.set_cons_succ]
        refine wpAnyH_take (i := 4) (v := ?v4_5) rfl (by kernel_rfl) (by kernel_rfl) (by kernel_rfl) (fun _ _ _ h => h) (Or.inl ⟨by kernel_rfl, ?h4_5⟩) hHeld ?r4_5
        case h4_5 => (rintro w' ⟨q0, q1⟩; go_simp; try (with_reducible rfl))
        try simp only [Act.put, List.getElem_toArray, List.getElem_cons_zero, List.getElem_cons_succ, List.setIfInBounds_toArray, List.set_cons_zero, List.set_cons_succ]
        refine wpAnyH_take (i := 5) (v := ?v5_6) rfl (by kernel_rfl) (by kernel_rfl) (by kernel_rfl) (fun _ _ _ h => h) (Or.inl ⟨by kernel_rfl, ?h5_6⟩) hHeld ?r5_6
        case h5_6 => (rintro w' ⟨q0, q1⟩; go_simp; try (with_reducible rfl))
        try simp only [Act.put, List.getElem_toArray, List.getElem_cons_zero, List.getElem_cons_succ, List.setIfInBounds_toArray, List.set_cons_zero, List.set_cons_succ]
        refine wpAnyH_take (i := 6) (v := ?v6_7) rfl (by kernel_rfl) (by kernel_rfl) (by kernel_rfl) (fun _ _ _ h => h) (Or.inl ⟨by kernel_rfl, ?h6_7⟩) hHeld ?r6_7
        case h6_7 => (rintro w' ⟨q0, q1⟩; go_simp; try (with_reducible rfl))
        try simp only [Act.put, List.getElem_toArray, List.getElem_cons_zero, List.getElem_cons_succ, List.setIfInBounds_toArray, List.set_cons_zero, List.set_cons_succ]
        refine wpAnyH_take (i := 7) (v := ?v7_8) rfl (by kernel_rfl) (by kernel_rfl) (by kernel_rfl) (fun _ _ _ h => h) (Or.inl ⟨by kernel_rfl, ?h7_8⟩) hHeld ?r7_8
        case h7_8 => (rintro w' ⟨q0, q1⟩; go_simp; try (with_reducible rfl))
        try simp only [Act.put, List.getElem_toArray, List.getElem_cons_zero, List.getElem_cons_succ, List.setIfInBounds_toArray, List.set_cons_zero, List.set_cons_succ]
        refine wpAnyH_take (i := 8) (v := ?v8_9) rfl (by kernel_rfl) (by kernel_rfl) (by kernel_rfl) (fun _ _ _ h => h) (Or.inl ⟨by kernel_rfl, ?h8_9⟩) hHeld ?r8_9
        case h8_9 => (rintro w' ⟨q0, q1⟩; go_simp; try (with_reducible rfl))
        try simp only [Act.put, List.getElem_toArray, List.getElem_cons_zero, List.getElem_cons_succ, List.setIfInBounds_toArray, List.set_cons_zero, List.set_cons_succ]
        refine wpAnyH_done (by kernel_rfl) ?_ _
        try simp only [Act.put, List.getElem_toArray, List.getElem_cons_zero, List.getElem_cons_succ, List.setIfInBounds_toArray, List.set_cons_zero, List.set_cons_succ]
        by_cases hxy : x = y
        · subst hxy
          clear l1 l2
          go_wp2
          go_roundg (N - (i + 1))
          case measure => omega
          case rel =>
            exact ⟨i + 1, by first | rfl | go_num, by omega, by omega, HI.out.1.drew, by have h := HX.out; simpa using h⟩
        · have hxb : (x == y) = false := by simpa using hxy
          have HXe : Aside (res = decide (x < y)) := by rw [HX.out, if_neg hxy]; rfl
          clear HX hxy
          obtain ⟨W1, hW1⟩ : ∃ W1, W1 = wr.drew := ⟨_, rfl⟩
          rw [← hW1]
          replace l1 : W1.cell? ⟨b1, o1 + i, none⟩ = some (.int .u8 x) := by rw [hW1]; exact l1
          replace l2 : W1.cell? ⟨b2, o2 + i, none⟩ = some (.int .u8 y) := by rw [hW1]; exact l2
          replace hW1 := Lib.hid hW1
          by_cases hlt2 : x < y
          · have hlb : decide (x < y) = true := decide_eq_true hlt2
            go_wp2
            refine wp_region_held_drew (S := fun w' => w'.cell? ⟨b1, o1 + i, none⟩ = some (.int .u8 x) ∧ w'.cell? ⟨b2, o2 + i, none⟩ = some (.int .u8 y)) (by kernel_rfl) ⟨l1, l2⟩ (fun hHeld => ?_)
            refine wpAnyH_take (i := 0) (v := ?v0_10) rfl (by kernel_rfl) (by kernel_rfl) (by kernel_rfl) (fun _ _ _ h => h) (Or.inl ⟨by kernel_rfl, ?h0_10⟩) hHeld ?r0_10
            case h0_10 => (rintro w' ⟨q0, q1⟩; go_simp; try (with_reducible rfl))
            try simp only [Act.put, List.getElem_toArray, List.getElem_cons_zero, List.getElem_cons_succ, List.setIfInBounds_toArray, List.set_cons_zero, List.set_cons_succ]
            refine wpAnyH_take (i := 1) (v := ?v1_11) rfl (by kernel_rfl) (by kernel_rfl) (by kernel_rfl) (fun _ _ _ h => h) (Or.inl ⟨by kernel_rfl, ?h1_11⟩) hHeld ?r1_11
            case h1_11 => (rintro w' ⟨q0, q1⟩; go_simp; try (with_reducible rfl))
            try simp only [Act.put, List.getElem_toArray, List.getElem_cons_zero, List.getElem_cons_succ, List.setIfInBounds_toArray, List.set_cons_zero, List.set_cons_succ]
            refine wpAnyH_take (i := 2) (v := ?v2_12) rfl (by kernel_rfl) (by kernel_rfl) (by kernel_rfl) (fun _ _ _ h => h) (Or.inl ⟨by kernel_rfl, ?h2_12⟩) hHeld ?r2_12
            case h2_12 => (rintro w' ⟨q0, q1⟩; go_simp; try (with_reducible rfl))
            try simp only [Act.put, List.getElem_toArray, List.getElem_cons_zero, List.getElem_cons_succ, List.setIfInBounds_toArray, List.set_cons_zero, List.set_cons_succ]
            refine wpAnyH_take (i := 3) (v := ?v3_13) rfl (by kernel_rfl) (by kernel_rfl) (by kernel_rfl) (fun _ _ _ h => h) (Or.inl ⟨by kernel_rfl, ?h3_13⟩) hHeld ?r3_13
            case h3_13 => (rintro w' ⟨q0, q1⟩; go_simp; try (with_reducible rfl))
            try simp only [Act.put, List.getElem_toArray, List.getElem_cons_zero, List.getElem_cons_succ, List.setIfInBounds_toArray, List.set_cons_zero, List.set_cons_succ]
            refine wpAnyH_take (i := 4) (v := ?v4_14) rfl (by kernel_rfl) (by kernel_rfl) (by kernel_rfl) (fun _ _ _ h => h) (Or.inl ⟨by kernel_rfl, ?h4_14⟩) hHeld ?r4_14
            case h4_14 => (rintro w' ⟨q0, q1⟩; go_simp; try (with_reducible rfl))
            try simp only [Act.put, List.getElem_toArray, List.getElem_cons_zero, List.getElem_cons_succ, List.setIfInBounds_toArray, List.set_cons_zero, List.set_cons_succ]
            refine wpAnyH_take (i := 5) (v := ?v5_15) rfl (by kernel_rfl) (by kernel_rfl) (by kernel_rfl) (fun _ _ _ h => h) (Or.inl ⟨by kernel_rfl, ?h5_15⟩) hHeld ?r5_15
            case h5_15 => (rintro w' ⟨q0, q1⟩; go_simp; try (with_reducible rfl))
            try simp only [Act.put, List.getElem_toArray, List.getElem_cons_zero, List.getElem_cons_succ, List.setIfInBounds_toArray, List.set_cons_zero, List.set_cons_succ]
            refine wpAnyH_take (i := 6) (v := ?v6_16) rfl (by kernel_rfl) (by kernel_rfl) (by kernel_rfl) (fun _ _ _ h => h) (Or.inl ⟨by kernel_rfl, ?h6_16⟩) hHeld ?r6_16
            case h6_16 => (rintro w' ⟨q0, q1⟩; go_simp; try (with_reducible rfl))
            try simp only [Act.put, List.getElem_toArray, List.getElem_cons_zero, List.getElem_cons_succ, List.setIfInBounds_toArray, List.set_cons_zero, List.set_cons_succ]
            refine wpAnyH_take (i := 7) (v := ?v7_17) rfl (by kernel_rfl) (by kernel_rfl) (by kernel_rfl) (fun _ _ _ h => h) (Or.inl ⟨by kernel_rfl, ?h7_17⟩) hHeld ?r7_17
            case h7_17 => (rintro w' ⟨q0, q1⟩; go_simp; try (with_reducible rfl))
            try simp only [Act.put, List.getElem_toArray, List.getElem_cons_zero, List.getElem_cons_succ, List.setIfInBounds_toArray, List.set_cons_zero, List.set_cons_succ]
            refine wpAnyH_take (i := 8) (v := ?v8_18) rfl (by kernel_rfl) (by kernel_rfl) (by kernel_rfl) (fun _ _ _ h => h) (Or.inl ⟨by kernel_rfl, ?h8_18⟩) hHeld ?r8_18
            case h8_18 => (rintro w' ⟨q0, q1⟩; go_simp; try (with_reducible rfl))
            try simp only [Act.put, List.getElem_toArray, List.getElem_cons_zero, List.getElem_cons_succ, List.setIfInBounds_toArray, List.set_cons_zero, List.set_cons_succ]
            refine wpAnyH_take (i := 9) (v := ?v9_19) rfl (by kernel_rfl) (by kernel_rfl) (by kernel_rfl) (fun _ _ _ h => h) (Or.inl ⟨by kernel_rfl, ?h9_19⟩) hHeld ?r9_19
            case h9_19 => (rintro w' ⟨q0, q1⟩; go_simp; try (with_reducible rfl))
            try simp only [Act.put, List.getElem_toArray, List.getElem_cons_zero, List.getElem_cons_succ, List.setIfInBounds_toArray, List.set_cons_zero, List.set_cons_succ]
            refine wpAnyH_done (by kernel_rfl) ?_ _
            try simp only [Act.put, List.getElem_toArray, List.getElem_cons_zero, List.getElem_cons_succ, List.setIfInBounds_toArray, List.set_cons_zero, List.set_cons_succ]
            go_wp2
            go_ret
            refine ⟨by rw [show res = true by rw [HXe.out, decide_eq_true hlt2]]; rfl, ?_⟩
            rw [hW1.out]
            exact HI.out.1.drew.drew
          · have hlb : decide (x < y) = false := decide_eq_false hlt2
            have hge : y ≤ x := by omega
            go_wp2
            refine wp_region_held_drew (S := fun w' => w'.cell? ⟨b1, o1 + i, none⟩ = some (.int .u8 x) ∧ w'.cell? ⟨b2, o2 + i, none⟩ = some (.int .u8 y)) (by kernel_rfl) ⟨l1, l2⟩ (fun hHeld => ?_)
            refine wpAnyH_take (i := 0) (v := ?v0_20) rfl (by kernel_rfl) (by kernel_rfl) (by kernel_rfl) (fun _ _ _ h => h) (Or.inl ⟨by kernel_rfl, ?h0_20⟩) hHeld ?r0_20
            case h0_20 => (rintro w' ⟨q0, q1⟩; go_simp; try (with_reducible rfl))
            try simp only [Act.put, List.getElem_toArray, List.getElem_cons_zero, List.getElem_cons_succ, List.setIfInBounds_toArray, List.set_cons_zero, List.set_cons_succ]
            refine wpAnyH_take (i := 1) (v := ?v1_21) rfl (by kernel_rfl) (by kernel_rfl) (by kernel_rfl) (fun _ _ _ h => h) (Or.inl ⟨by kernel_rfl, ?h1_21⟩) hHeld ?r1_21
            case h1_21 => (rintro w' ⟨q0, q1⟩; go_simp; try (with_reducible rfl))
            try simp only [Act.put, List.getElem_toArray, List.getElem_cons_zero, List.getElem_cons_succ, List.setIfInBounds_toArray, List.set_cons_zero, List.set_cons_succ]
            refine wpAnyH_take (i := 2) (v := ?v2_22) rfl (by kernel_rfl) (by kernel_rfl) (by kernel_rfl) (fun _ _ _ h => h) (Or.inl ⟨by kernel_rfl, ?h2_22⟩) hHeld ?r2_22
            case h2_22 => (rintro w' ⟨q0, q1⟩; go_simp; try (with_reducible rfl))
            try simp only [Act.put, List.getElem_toArray, List.getElem_cons_zero, List.getElem_cons_succ, List.setIfInBounds_toArray, List.set_cons_zero, List.set_cons_succ]
            refine wpAnyH_take (i := 3) (v := ?v3_23) rfl (by kernel_rfl) (by kernel_rfl) (by kernel_rfl) (fun _ _ _ h => h) (Or.inl ⟨by kernel_rfl, ?h3_23⟩) hHeld ?r3_23
            case h3_23 => (rintro w' ⟨q0, q1⟩; go_simp; try (with_reducible rfl))
            try simp only [Act.put, List.getElem_toArray, List.getElem_cons_zero, List.getElem_cons_succ, List.setIfInBounds_toArray, List.set_cons_zero, List.set_cons_succ]
            refine wpAnyH_take (i := 4) (v := ?v4_24) rfl (by kernel_rfl) (by kernel_rfl) (by kernel_rfl) (fun _ _ _ h => h) (Or.inl ⟨by kernel_rfl, ?h4_24⟩) hHeld ?r4_24
            case h4_24 => (rintro w' ⟨q0, q1⟩; go_simp; try (with_reducible rfl))
            try simp only [Act.put, List.getElem_toArray, List.getElem_cons_zero, List.getElem_cons_succ, List.setIfInBounds_toArray, List.set_cons_zero, List.set_cons_succ]
            refine wpAnyH_take (i := 5) (v := ?v5_25) rfl (by kernel_rfl) (by kernel_rfl) (by kernel_rfl) (fun _ _ _ h => h) (Or.inl ⟨by kernel_rfl, ?h5_25⟩) hHeld ?r5_25
            case h5_25 => (rintro w' ⟨q0, q1⟩; go_simp; try (with_reducible rfl))
            try simp only [Act.put, List.getElem_toArray, List.getElem_cons_zero, List.getElem_cons_succ, List.setIfInBounds_toArray, List.set_cons_zero, List.set_cons_succ]
            refine wpAnyH_take (i := 6) (v := ?v6_26) rfl (by kernel_rfl) (by kernel_rfl) (by kernel_rfl) (fun _ _ _ h => h) (Or.inl ⟨by kernel_rfl, ?h6_26⟩) hHeld ?r6_26
            case h6_26 => (rintro w' ⟨q0, q1⟩; go_simp; try (with_reducible rfl))
            try simp only [Act.put, List.getElem_toArray, List.getElem_cons_zero, List.getElem_cons_succ, List.setIfInBounds_toArray, List.set_cons_zero, List.set_cons_succ]
            refine wpAnyH_take (i := 7) (v := ?v7_27) rfl (by kernel_rfl) (by kernel_rfl) (by kernel_rfl) (fun _ _ _ h => h) (Or.inl ⟨by kernel_rfl, ?h7_27⟩) hHeld ?r7_27
            case h7_27 => (rintro w' ⟨q0, q1⟩; go_simp; try (with_reducible rfl))
            try simp only [Act.put, List.getElem_toArray, List.getElem_cons_zero, List.getElem_cons_succ, List.setIfInBounds_toArray, List.set_cons_zero, List.set_cons_succ]
            refine wpAnyH_take (i := 8) (v := ?v8_28) rfl (by kernel_rfl) (by kernel_rfl) (by kernel_rfl) (fun _ _ _ h => h) (Or.inl ⟨by kernel_rfl, ?h8_28⟩) hHeld ?r8_28
            case h8_28 => (rintro w' ⟨q0, q1⟩; go_simp; try (with_reducible rfl))
            try simp only [Act.put, List.getElem_toArray, List.getElem_cons_zero, List.getElem_cons_succ, List.setIfInBounds_toArray, List.set_cons_zero, List.set_cons_succ]
            refine wpAnyH_take (i := 9) (v := ?v9_29) rfl (by kernel_rfl) (by kernel_rfl) (by kernel_rfl) (fun _ _ _ h => h) (Or.inl ⟨by kernel_rfl, ?h9_29⟩) hHeld ?r9_29
            case h9_29 => (rintro w' ⟨q0, q1⟩; go_simp; try (with_reducible rfl))
            try simp only [Act.put, List.getElem_toArray, List.getElem_cons_zero, List.getElem_cons_succ, List.setIfInBounds_toArray, List.set_cons_zero, List.set_cons_succ]
            refine wpAnyH_done (by kernel_rfl) ?_ _
            try simp only [Act.put, List.getElem_toArray, List.getElem_cons_zero, List.getElem_cons_succ, List.setIfInBounds_toArray, List.set_cons_zero, List.set_cons_succ]
            go_wp2
            go_ret
            refine ⟨by rw [show res = false by rw [HXe.out]; exact decide_eq_false (by omega)]; rfl, ?_⟩
            rw [hW1.out]
            exact HI.out.1.drew.drew
      · have hltz : ¬ (i : Int) < (N : Int) := by omega
        have hlt2 : (N : Int) ≤ (i : Int) := by omega
        go_wp2
        go_ret
        refine ⟨?_, HI.out.1⟩
        have : res = false := by
          rw [HI.out.2, List.drop_eq_nil_of_le (by have := HL.out; omega)]
          rfl
        rw [this]
        rfl
  · have hv : lessV la lb = decide (N < M) := by
      unfold lessV
      rw [if_neg (by have := HL.out; omega)]
      have := HL.out
      rw [this.1, this.2.1]
    rw [hv]
    have hNMz : ¬ (N : Int) = (M : Int) := by omega
    have hNMb : ((N : Int) == (M : Int)) = false := by simpa using hNMz
    by_cases hlt : N < M
    · have hd : decide ((N : Int) < (M : Int)) = true := decide_eq_true (by omega)
      have hltz : (N : Int) < (M : Int) := by omega
      rw [decide_eq_true hlt]
      go_enter Tryz.func21, Tryz.ntmps21
      go_wp2
      go_ret
      exact ⟨rfl, Below.refl _ _⟩
    · have hd : decide ((N : Int) < (M : Int)) = false := decide_eq_false (by omega)
      have hltz : ¬ (N : Int) < (M : Int) := by omega
      rw [decide_eq_false hlt]
      go_enter Tryz.func21, Tryz.ntmps21
      go_wp2
      go_ret
      exact ⟨rfl, Below.refl _ _⟩

/-! ### the escapes -/
abbrev Ent := ByteArray × Int × Int
def entCells (e : Ent) : List Value := [.string e.1, .int .i64 e.2.1, .int .i64 e.2.2]
def lastS : List ByteArray := [⟨#[]⟩, ⟨#[66]⟩, ⟨#[33, 69]⟩, ⟨#[83]⟩, ⟨#[50]⟩, ⟨#[51]⟩, ⟨#[52]⟩, ⟨#[78]⟩, ⟨#[81]⟩]
def escRound (i : Nat) : List Ent := [(⟨#[27, 40]⟩ ++ lastS.getD (1 + i) ⟨#[]⟩, 0, 1 + i), (⟨#[27, 44]⟩ ++ lastS.getD (1 + i) ⟨#[]⟩, 0, 1 + i), (⟨#[27, 41]⟩ ++ lastS.getD (1 + i) ⟨#[]⟩, 1, 1 + i), (⟨#[27, 45]⟩ ++ lastS.getD (1 + i) ⟨#[]⟩, 1, 1 + i)]
def escTo (k : Nat) : List Ent := (List.range k).flatMap escRound
def escTail : List Ent := [(⟨#[27, 36, 49]⟩, 0, 9), (⟨#[27, 36, 44, 49]⟩, 0, 9), (⟨#[27, 36, 41, 49]⟩, 1, 9), (⟨#[27, 36, 45, 49]⟩, 1, 9), (⟨#[27, 98]⟩, 0, 10), (⟨#[27, 112]⟩, 0, 11), (⟨#[27, 103]⟩, 0, 12), (⟨#[27, 115]⟩, 0, 1)]
def escAll : List Ent := escTo 8 ++ escTail
theorem escTo_succ (k : Nat) : escTo (k + 1) = escTo k ++ escRound k := by simp [escTo, List.range_succ]
theorem escTo_len : ∀ k, (escTo k).length = 4 * k
  | 0 => rfl
  | k + 1 => by rw [escTo_succ, List.length_append, escTo_len k]; show 4 * k + 4 = _; omega
theorem entOne {l : List Ent} : ∀ u ∈ l.flatMap entCells, u.oneCell' = true := fun u hu => by
  obtain ⟨e, _, h⟩ := List.mem_flatMap.1 hu
  simp only [entCells, List.mem_cons, List.not_mem_nil, or_false] at h
  rcases h with rfl | rfl | rfl <;> rfl
theorem ent_len (l : List Ent) : (l.flatMap entCells).length = l.length * 3 := by
  induction l with
  | nil => rfl
  | cons e r ih => rw [List.flatMap_cons, List.length_append, ih, List.length_cons]; show 3 + _ = _; omega
def OwnE (w : World) (base : Nat) (v : Value) (l : List Ent) : Prop := w.ownsRow base 61 3 v l.length (l.flatMap entCells)
theorem OwnE.base {w : World} {base b2 : Nat} {v : Value} {l : List Ent} (h : OwnE w base v l) (hb : b2 ≤ base) : OwnE w b2 v l := by
  refine ⟨h.1, ?_⟩
  rcases h.2 with h0 | ⟨g, cap, cur, h1, h2, h3⟩
  · exact .inl h0
  · exact .inr ⟨g, cap, cur, h1, Nat.le_trans hb h2, h3⟩
theorem iEnt : (Tryz.prog.info? 61).map (fun i => (i.zero, i.size, i.bytes)) = some (some (.agg #[.string .empty, .int .i64 0, .int .i64 0]), 3, 32) := by kernel_rfl
theorem append_ents {ops : Array Oper} {rest : List Oper} {o : Oper} {a : Act} {Q : Exit → Act → World → Prop} {w : World} (hgd : o.guard = none) (s x : Operand)
    (ho : o.op = .call { callee := .builtin .append, args := #[s, x], argTypes := #[58, 58] })
    (base : Nat) (v : Value) (xs : List Ent) (hs : a.eval s = v) (hown : OwnE w base v xs) (ad : Addr) (m c : Nat) (l : List Ent) (hm : m = l.length) (hx : a.eval x = .slice (some ad) m c) (hc : ∀ j u, (l.flatMap entCells)[j]? = some u → w.cell? (ad.add j) = some u) (hlen : xs.length + l.length ≤ 1000000) (hbase : base ≤ w.heap.size)
    (h : ∀ v' w', OwnE w' base v' (xs ++ l) → Below base w w' → wpList Tryz.prog ops Q rest (a.put o.dst v') w') : wpList Tryz.prog ops Q (o :: rest) a w := by
  subst hm
  obtain ⟨ie, hi, hz, hsz, hby⟩ := info_parts iEnt
  refine wpList_append_own_at w hgd s x 58 ho base 61 ie _ 3 32 Tryz.underlying58 hi hz hsz hby rfl (by omega) v xs.length (xs.flatMap entCells) hs hown ad l.length c (l.flatMap entCells) hx (ent_len l) hc entOne (by unfold maxLen; omega) (by omega) hbase ?_
  intro v' w' h1 h2 _ _
  refine h v' w' ?_ ((Below.refl _ _).grown h2 hbase fun k hk => (hown.lt k hk).1)
  unfold OwnE
  rw [List.length_append, List.flatMap_append]
  exact h1
theorem step_append_ents {ops : Array Oper} {o : Oper} {a : Act} {K : Act → World → Prop} {Q : Exit → Act → World → Prop} {E : Prop} {w : World} (hgd : o.guard = none) (s x : Operand)
    (ho : o.op = .call { callee := .builtin .append, args := #[s, x], argTypes := #[58, 58] })
    (base : Nat) (v : Value) (xs : List Ent) (hs : a.eval s = v) (hown : OwnE w base v xs) (ad : Addr) (m c : Nat) (l : List Ent) (hm : m = l.length) (hx : a.eval x = .slice (some ad) m c) (hc : ∀ j u, (l.flatMap entCells)[j]? = some u → w.cell? (ad.add j) = some u) (hlen : xs.length + l.length ≤ 1000000) (hbase : base ≤ w.heap.size)
    (h : ∀ v' w', OwnE w' base v' (xs ++ l) → Below base w w' → K (a.put o.dst v') w') :
    if Region.wanted o (yielded ops a.tmps) = true then Oper.wp Tryz.prog o a w K Q else E := by
  subst hm
  have hw : Region.wanted o (yielded ops a.tmps) = true := by simp [Region.wanted, hgd]
  rw [if_pos hw]
  obtain ⟨ie, hi, hz, hsz, hby⟩ := info_parts iEnt
  obtain ⟨v', w', hr, h2, h3, _, h5⟩ := run_append_own_at (P := Tryz.prog) w base 58 o.type 61 ie _ 3 32 Tryz.underlying58 hi hz hsz hby rfl (by decide) v xs.length (xs.flatMap entCells) hown ad l.length c (l.flatMap entCells) (ent_len l) hc entOne (by unfold maxLen; omega) (by omega) hbase
  unfold Oper.wp
  simp [execOp, ho, resolve, invoke, builtin, hs, hx, hr, Result.andThen]
  refine h v' w' ?_ ((Below.refl _ _).grown h3 hbase fun k hk => (World.ownsRow.lt hown k hk).1)
  unfold OwnE
  rw [List.length_append, List.flatMap_append]
  exact h2
theorem lit_cells (W : World) (cs : List Value) (t : TypeId) (n : Nat) (hn : n = W.heap.size) : ∀ j u, cs[j]? = some u → (W.alloc (.cells cs.toArray t)).cell? ((⟨n, 0, none⟩ : Addr).add j) = some u := by
  subst hn
  intro j u hu
  have hx : (W.alloc (.cells cs.toArray t)).heap[W.heap.size]? = some (.cells cs.toArray t) := (MapKept.heap_alloc W _).1
  rw [Addr.add_lit]
  simp only [World.cell?, hx]
  simpa using hu

set_option maxHeartbeats 8000000 in
set_option maxRecDepth 100000 in
theorem cEscapes (w : World) : Calls Tryz.prog 20 #[] w fun e w' => ∃ v, e = .returned v ∧ OwnE w' w.heap.size v escAll ∧ Below w.heap.size w w' := by
  have hl0 : ∀ j u, (lastS.map Value.string)[j]? = some u → (w.alloc (.cells #[.string ⟨#[]⟩, .string ⟨#[66]⟩, .string ⟨#[33, 69]⟩, .string ⟨#[83]⟩, .string ⟨#[50]⟩, .string ⟨#[51]⟩, .string ⟨#[52]⟩, .string ⟨#[78]⟩, .string ⟨#[81]⟩] 9)).cell? ⟨w.heap.size, j, none⟩ = some u := fun j u hu => by
    have := lit_cells w (lastS.map Value.string) 9 _ rfl j u hu
    rw [Addr.add_lit, Nat.zero_add] at this
    exact this
  have HL0 := Lib.hid hl0
  clear hl0
  have hs0 : w.heap.size < (w.alloc (.cells #[.string ⟨#[]⟩, .string ⟨#[66]⟩, .string ⟨#[33, 69]⟩, .string ⟨#[83]⟩, .string ⟨#[50]⟩, .string ⟨#[51]⟩, .string ⟨#[52]⟩, .string ⟨#[78]⟩, .string ⟨#[81]⟩] 9)).heap.size := by simp
  have hb0 : Below w.heap.size w (w.alloc (.cells #[.string ⟨#[]⟩, .string ⟨#[66]⟩, .string ⟨#[33, 69]⟩, .string ⟨#[83]⟩, .string ⟨#[50]⟩, .string ⟨#[51]⟩, .string ⟨#[52]⟩, .string ⟨#[78]⟩, .string ⟨#[81]⟩] 9)) := (Below.refl _ w).alloc (Nat.le_refl _) _
  obtain ⟨W0, hW0⟩ : ∃ W0, W0 = (w.alloc (.cells #[.string ⟨#[]⟩, .string ⟨#[66]⟩, .string ⟨#[33, 69]⟩, .string ⟨#[83]⟩, .string ⟨#[50]⟩, .string ⟨#[51]⟩, .string ⟨#[52]⟩, .string ⟨#[78]⟩, .string ⟨#[81]⟩] 9)) := ⟨_, rfl⟩
  rw [← hW0] at HL0 hs0 hb0
  have HB0 : Aside (Below w.heap.size w W0 ∧ w.heap.size < W0.heap.size) := ⟨hb0, hs0⟩
  clear hb0 hs0
  go_enter Tryz.func20, Tryz.ntmps20
  go_wp2_with fail
  rw [← hW0]
  replace hW0 := Lib.hid hW0
  go_loopg [1, 3] 8 (fun g v1 v3 wr => ∃ i : Nat, v3 = .int .i64 (1 + (i : Int)) ∧ i ≤ 8 ∧ 8 - i ≤ g ∧ Aside (OwnE wr W0.heap.size v1 (escTo i) ∧ Below W0.heap.size W0 wr))
  case atStart => exact ⟨0, rfl, by omega, by omega, World.ownsRow_nil _ _ _ _, Below.refl _ _⟩
  case round =>
    obtain ⟨i, rfl, hi, hg1, HI⟩ := hrel
    by_cases hlt : i < 8
    · have hle : 1 + (i : Int) ≤ 8 := by omega
      have h19 : 1 + (i : Int) < 9 := by omega
      have h10 : 0 ≤ 1 + (i : Int) := by omega
      have hto : (1 + (i : Int)).toNat = 1 + i := by omega
      have hto2 : ((1 + i : Nat) : Int) = 1 + (i : Int) := by omega
      have l1 : wr.cell? ⟨w.heap.size, 1 + i, none⟩ = some (.string (lastS.getD (1 + i) ⟨#[]⟩)) := by
        refine (HI.out.2.cell (p := ⟨w.heap.size, 1 + i, none⟩) HB0.out.2).trans (HL0.out (1 + i) _ ?_)
        rw [List.getElem?_map, List.getD_eq_getElem?_getD]
        have : 1 + i < lastS.length := by show _ < 9; omega
        rw [List.getElem?_eq_getElem this]
        rfl
      have hround : ∀ x, x = lastS.getD (1 + i) ⟨#[]⟩ → (escRound i).flatMap entCells = [.string (⟨#[27, 40]⟩ ++ x), .int .i64 0, .int .i64 (1 + (i : Int)), .string (⟨#[27, 44]⟩ ++ x), .int .i64 0, .int .i64 (1 + (i : Int)), .string (⟨#[27, 41]⟩ ++ x), .int .i64 1, .int .i64 (1 + (i : Int)), .string (⟨#[27, 45]⟩ ++ x), .int .i64 1, .int .i64 (1 + (i : Int))] := fun x hx => by rw [hx]; rfl
      obtain ⟨x, hx⟩ : ∃ x, x = lastS.getD (1 + i) ⟨#[]⟩ := ⟨_, rfl⟩
      have HRD := Lib.hid (hround x hx)
      have hxs : ¬ 9223372036854775807 < 2 + x.size := by
        have : ∀ j, j < 9 → (lastS.getD j ⟨#[]⟩).size ≤ 2 := by decide
        have h2 := this (1 + i) (by omega)
        rw [← hx] at h2
        omega
      rw [← hx] at l1
      have l0 : W0.cell? ⟨w.heap.size, 1 + i, none⟩ = some (.string x) := by rw [← HI.out.2.cell (p := ⟨w.heap.size, 1 + i, none⟩) HB0.out.2]; exact l1
      replace l0 := Lib.hid l0
      clear hround hx
      go_wp2_with fail
      refine wp_region_held_drew (S := fun w' => w'.cell? ⟨w.heap.size, 1 + i, none⟩ = some (.string x)) (by kernel_rfl) l1 (fun hHeld => ?_)
      refine wpAnyH_take (i := 0) (v := ?v0_30) rfl (by kernel_rfl) (by kernel_rfl) (by kernel_rfl) (fun _ _ _ h => h) (Or.inl ⟨by kernel_rfl, ?h0_30⟩) hHeld ?r0_30
      case h0_30 => (rintro w' q0; go_simp; try (with_reducible rfl))
      try simp only [Act.put, List.getElem_toArray, List.getElem_cons_zero, List.getElem_cons_succ, List.setIfInBounds_toArray, List.set_cons_zero, List.set_cons_succ]
      refine wpAnyH_take (i := 1) (v := ?v1_31) rfl (by kernel_rfl) (by kernel_rfl) (by kernel_rfl) (fun _ _ _ h => h) (Or.inl ⟨by kernel_rfl, ?h1_31⟩) hHeld ?r1_31
      case h1_31 => (rintro w' q0; go_simp; try (with_reducible rfl))
      try simp only [Act.put, List.getElem_toArray, List.getElem_cons_zero, List.getElem_cons_succ, List.setIfInBounds_toArray, List.set_cons_zero, List.set_cons_succ]
      refine wpAnyH_take (i := 2) (v := ?v2_32) rfl (by kernel_rfl) (by kernel_rfl) (by kernel_rfl) (fun _ _ _ h => h) (Or.inl ⟨by kernel_rfl, ?h2_32⟩) hHeld ?r2_32
      case h2_32 => (rintro w' q0; go_simp; try (with_reducible rfl))
      try simp only [Act.put, List.getElem_toArray, List.getElem_cons_zero, List.getElem_cons_succ, List.setIfInBounds_toArray, List.set_cons_zero, List.set_cons_succ]
      refine wpAnyH_take (i := 3) (v := ?v3_33) rfl (by kernel_rfl) (by kernel_rfl) (by kernel_rfl) (fun _ _ _ h => h) (Or.inl ⟨by kernel_rfl, ?h3_33⟩) hHeld ?r3_33
      case h3_33 => (rintro w' q0; go_simp; try (with_reducible rfl))
      try simp only [Act.put, List.getElem_toArray, List.getElem_cons_zero, List.getElem_cons_succ, List.setIfInBounds_toArray, List.set_cons_zero, List.set_cons_succ]
      refine wpAnyH_take (i := 4) (v := ?v4_34) rfl (by kernel_rfl) (by kernel_rfl) (by kernel_rfl) (fun _ _ _ h => h) (Or.inl ⟨by kernel_rfl, ?h4_34⟩) hHeld ?r4_34
      case h4_34 => (rintro w' q0; go_simp; try (with_reducible rfl))
      try simp only [Act.put, List.getElem_toArray, List.getElem_cons_zero, List.getElem_cons_succ, List.setIfInBounds_toArray, List.set_cons_zero, List.set_cons_succ]
      refine wpAnyH_take (i := 5) (v := ?v5_35) rfl (by kernel_rfl) (by kernel_rfl) (by kernel_rfl) (fun _ _ _ h => h) (Or.inl ⟨by kernel_rfl, ?h5_35⟩) hHeld ?r5_35
      case h5_35 => (rintro w' q0; go_simp; try (with_reducible rfl))
      try simp only [Act.put, List.getElem_toArray, List.getElem_cons_zero, List.getElem_cons_succ, List.setIfInBounds_toArray, List.set_cons_zero, List.set_cons_succ]
      refine wpAnyH_take (i := 6) (v := ?v6_36) rfl (by kernel_rfl) (by kernel_rfl) (by kernel_rfl) (fun _ _ _ h => h) (Or.inl ⟨by kernel_rfl, ?h6_36⟩) hHeld ?r6_36
      case h6_36 => (rintro w' q0; go_simp; try (with_reducible rfl))
      try simp only [Act.put, List.getElem_toArray, List.getElem_cons_zero, List.getElem_cons_succ, List.setIfInBounds_toArray, List.set_cons_zero, List.set_cons_succ]
      refine wpAnyH_take (i := 7) (v := ?v7_37) rfl (by kernel_rfl) (by kernel_rfl) (by kernel_rfl) (fun _ _ _ h => h) (Or.inl ⟨by kernel_rfl, ?h7_37⟩) hHeld ?r7_37
      case h7_37 => (rintro w' q0; go_simp; try (with_reducible rfl))
      try simp only [Act.put, List.getElem_toArray, List.getElem_cons_zero, List.getElem_cons_succ, List.setIfInBounds_toArray, List.set_cons_zero, List.set_cons_succ]
      refine wpAnyH_take (i := 8) (v := ?v8_38) rfl (by kernel_rfl) (by kernel_rfl) (by kernel_rfl) (fun _ _ _ h => h) (Or.inl ⟨by kernel_rfl, ?h8_38⟩) hHeld ?r8_38
      case h8_38 => (rintro w' q0; go_simp; try (with_reducible rfl))
      try simp only [Act.put, List.getElem_toArray, List.getElem_cons_zero, List.getElem_cons_succ, List.setIfInBounds_toArray, List.set_cons_zero, List.set_cons_succ]
      refine wpAnyH_take (i := 9) (v := ?v9_39) rfl (by kernel_rfl) (by kernel_rfl) (by kernel_rfl) (fun _ _ _ h => h) (Or.inl ⟨by kernel_rfl, ?h9_39⟩) hHeld ?r9_39
      case h9_39 => (rintro w' q0; go_simp; try (with_reducible rfl))
      try simp only [Act.put, List.getElem_toArray, List.getElem_cons_zero, List.getElem_cons_succ, List.setIfInBounds_toArray, List.set_cons_zero, List.set_cons_succ]
      refine wpAnyH_take (i := 10) (v := ?v10_40) rfl (by kernel_rfl) (by kernel_rfl) (by kernel_rfl) (fun _ _ _ h => h) (Or.inl ⟨by kernel_rfl, ?h10_40⟩) hHeld ?r10_40
      case h10_40 => (rintro w' q0; go_simp; try (with_reducible rfl))
      try simp only [Act.put, List.getElem_toArray, List.getElem_cons_zero, List.getElem_cons_succ, List.setIfInBounds_toArray, List.set_cons_zero, List.set_cons_succ]
      refine wpAnyH_take (i := 11) (v := ?v11_41) rfl (by kernel_rfl) (by kernel_rfl) (by kernel_rfl) (fun _ _ _ h => h) (Or.inl ⟨by kernel_rfl, ?h11_41⟩) hHeld ?r11_41
      case h11_41 => (rintro w' q0; go_simp; try (with_reducible rfl))
      try simp only [Act.put, List.getElem_toArray, List.getElem_cons_zero, List.getElem_cons_succ, List.setIfInBounds_toArray, List.set_cons_zero, List.set_cons_succ]
      refine wpAnyH_take (i := 12) (v := ?v12_42) rfl (by kernel_rfl) (by kernel_rfl) (by kernel_rfl) (fun _ _ _ h => h) (Or.inl ⟨by kernel_rfl, ?h12_42⟩) hHeld ?r12_42
      case h12_42 => (rintro w' q0; go_simp; try (with_reducible rfl))
      try simp only [Act.put, List.getElem_toArray, List.getElem_cons_zero, List.getElem_cons_succ, List.setIfInBounds_toArray, List.set_cons_zero, List.set_cons_succ]
      refine wpAnyH_take (i := 13) (v := ?v13_43) rfl (by kernel_rfl) (by kernel_rfl) (by kernel_rfl) (fun _ _ _ h => h) (Or.inl ⟨by kernel_rfl, ?h13_43⟩) hHeld ?r13_43
      case h13_43 => (rintro w' q0; go_simp; try (with_reducible rfl))
      try simp only [Act.put, List.getElem_toArray, List.getElem_cons_zero, List.getElem_cons_succ, List.setIfInBounds_toArray, List.set_cons_zero, List.set_cons_succ]
      refine wpAnyH_take (i := 14) (v := ?v14_44) rfl (by kernel_rfl) (by kernel_rfl) (by kernel_rfl) (fun _ _ _ h => h) (Or.inl ⟨by kernel_rfl, ?h14_44⟩) hHeld ?r14_44
      case h14_44 => (rintro w' q0; go_simp; try (with_reducible rfl))
      try simp only [Act.put, List.getElem_toArray, List.getElem_cons_zero, List.getElem_cons_succ, List.setIfInBounds_toArray, List.set_cons_zero, List.set_cons_succ]
      refine wpAnyH_take (i := 15) (v := ?v15_45) rfl (by kernel_rfl) (by kernel_rfl) (by kernel_rfl) (fun _ _ _ h => h) (Or.inl ⟨by kernel_rfl, ?h15_45⟩) hHeld ?r15_45
      case h15_45 => (rintro w' q0; go_simp; try (with_reducible rfl))
      try simp only [Act.put, List.getElem_toArray, List.getElem_cons_zero, List.getElem_cons_succ, List.setIfInBounds_toArray, List.set_cons_zero, List.set_cons_succ]
      refine wpAnyH_take (i := 16) (v := ?v16_46) rfl (by kernel_rfl) (by kernel_rfl) (by kernel_rfl) (fun _ _ _ h => h) (Or.inl ⟨by kernel_rfl, ?h16_46⟩) hHeld ?r16_46
      case h16_46 => (rintro w' q0; go_simp; try (with_reducible rfl))
      try simp only [Act.put, List.getElem_toArray, List.getElem_cons_zero, List.getElem_cons_succ, List.setIfInBounds_toArray, List.set_cons_zero, List.set_cons_succ]
      refine wpAnyH_take (i := 17) (v := ?v17_47) rfl (by kernel_rfl) (by kernel_rfl) (by kernel_rfl) (fun _ _ _ h => h) (Or.inl ⟨by kernel_rfl, ?h17_47⟩) hHeld ?r17_47
      case h17_47 => (rintro w' q0; go_simp; try (with_reducible rfl))
      try simp only [Act.put, List.getElem_toArray, List.getElem_cons_zero, List.getElem_cons_succ, List.setIfInBounds_toArray, List.set_cons_zero, List.set_cons_succ]
      refine wpAnyH_take (i := 18) (v := ?v18_48) rfl (by kernel_rfl) (by kernel_rfl) (by kernel_rfl) (fun _ _ _ h => h) (Or.inl ⟨by kernel_rfl, ?h18_48⟩) hHeld ?r18_48
      case h18_48 => (rintro w' q0; go_simp; try (with_reducible rfl))
      try simp only [Act.put, List.getElem_toArray, List.getElem_cons_zero, List.getElem_cons_succ, List.setIfInBounds_toArray, List.set_cons_zero, List.set_cons_succ]
      refine wpAnyH_take (i := 19) (v := ?v19_49) rfl (by kernel_rfl) (by kernel_rfl) (by kernel_rfl) (fun _ _ _ h => h) (Or.inl ⟨by kernel_rfl, ?h19_49⟩) hHeld ?r19_49
      case h19_49 => (rintro w' q0; go_simp; try (with_reducible rfl))
      try simp only [Act.put, List.getElem_toArray, List.getElem_cons_zero, List.getElem_cons_succ, List.setIfInBounds_toArray, List.set_cons_zero, List.set_cons_succ]
      refine wpAnyH_take (i := 20) (v := ?v20_50) rfl (by kernel_rfl) (by kernel_rfl) (by kernel_rfl) (fun _ _ _ h => h) (Or.inl ⟨by kernel_rfl, ?h20_50⟩) hHeld ?r20_50
      case h20_50 => (rintro w' q0; go_simp; try (with_reducible rfl))
      try simp only [Act.put, List.getElem_toArray, List.getElem_cons_zero, List.getElem_cons_succ, List.setIfInBounds_toArray, List.set_cons_zero, List.set_cons_succ]
      refine wpAnyH_take (i := 21) (v := ?v21_51) rfl (by kernel_rfl) (by kernel_rfl) (by kernel_rfl) (fun _ _ _ h => h) (Or.inl ⟨by kernel_rfl, ?h21_51⟩) hHeld ?r21_51
      case h21_51 => (rintro w' q0; go_simp; try (with_reducible rfl))
      try simp only [Act.put, List.getElem_toArray, List.getElem_cons_zero, List.getElem_cons_succ, List.setIfInBounds_toArray, List.set_cons_zero, List.set_cons_succ]
      refine wpAnyH_take (i := 22) (v := ?v22_52) rfl (by kernel_rfl) (by kernel_rfl) (by kernel_rfl) (fun _ _ _ h => h) (Or.inl ⟨by kernel_rfl, ?h22_52⟩) hHeld ?r22_52
      case h22_52 => (rintro w' q0; go_simp; try (with_reducible rfl))
      try simp only [Act.put, List.getElem_toArray, List.getElem_cons_zero, List.getElem_cons_succ, List.setIfInBounds_toArray, List.set_cons_zero, List.set_cons_succ]
      refine wpAnyH_take (i := 23) (v := ?v23_53) rfl (by kernel_rfl) (by kernel_rfl) (by kernel_rfl) (fun _ _ _ h => h) (Or.inl ⟨by kernel_rfl, ?h23_53⟩) hHeld ?r23_53
      case h23_53 => (rintro w' q0; go_simp; try (with_reducible rfl))
      try simp only [Act.put, List.getElem_toArray, List.getElem_cons_zero, List.getElem_cons_succ, List.setIfInBounds_toArray, List.set_cons_zero, List.set_cons_succ]
      refine wpAnyH_take (i := 24) (v := ?v24_54) rfl (by kernel_rfl) (by kernel_rfl) (by kernel_rfl) (fun _ _ _ h => h) (Or.inl ⟨by kernel_rfl, ?h24_54⟩) hHeld ?r24_54
      case h24_54 => (rintro w' q0; go_simp; try (with_reducible rfl))
      try simp only [Act.put, List.getElem_toArray, List.getElem_cons_zero, List.getElem_cons_succ, List.setIfInBounds_toArray, List.set_cons_zero, List.set_cons_succ]
      refine wpAnyH_take (i := 25) (v := ?v25_55) rfl (by kernel_rfl) (by kernel_rfl) (by kernel_rfl) (fun _ _ _ h => h) (Or.inl ⟨by kernel_rfl, ?h25_55⟩) hHeld ?r25_55
      case h25_55 => (rintro w' q0; go_simp; try (with_reducible rfl))
      try simp only [Act.put, List.getElem_toArray, List.getElem_cons_zero, List.getElem_cons_succ, List.setIfInBounds_toArray, List.set_cons_zero, List.set_cons_succ]
      refine wpAnyH_take (i := 26) (v := ?v26_56) rfl (by kernel_rfl) (by kernel_rfl) (by kernel_rfl) (fun _ _ _ h => h) (Or.inl ⟨by kernel_rfl, ?h26_56⟩) hHeld ?r26_56
      case h26_56 => (rintro w' q0; go_simp; try (with_reducible rfl))
      try simp only [Act.put, List.getElem_toArray, List.getElem_cons_zero, List.getElem_cons_succ, List.setIfInBounds_toArray, List.set_cons_zero, List.set_cons_succ]
      refine wpAnyH_take (i := 27) (v := ?v27_57) rfl (by kernel_rfl) (by kernel_rfl) (by kernel_rfl) (fun _ _ _ h => h) (Or.inl ⟨by kernel_rfl, ?h27_57⟩) hHeld ?r27_57
      case h27_57 => (rintro w' q0; go_simp; try (with_reducible rfl))
      try simp only [Act.put, List.getElem_toArray, List.getElem_cons_zero, List.getElem_cons_succ, List.setIfInBounds_toArray, List.set_cons_zero, List.set_cons_succ]
      refine wpAnyH_take (i := 28) (v := ?v28_58) rfl (by kernel_rfl) (by kernel_rfl) (by kernel_rfl) (fun _ _ _ h => h) (Or.inl ⟨by kernel_rfl, ?h28_58⟩) hHeld ?r28_58
      case h28_58 => (rintro w' q0; go_simp; try (with_reducible rfl))
      try simp only [Act.put, List.getElem_toArray, List.getElem_cons_zero, List.getElem_cons_succ, List.setIfInBounds_toArray, List.set_cons_zero, List.set_cons_succ]
      obtain ⟨X0, hX0⟩ : ∃ Z, Z = wr.drew := ⟨_, rfl⟩
      rw [← hX0] at hHeld ⊢
      have HX0 : Aside (OwnE X0 W0.heap.size u1 (escTo i) ∧ Below W0.heap.size W0 X0) := by rw [hX0]; exact ⟨HI.out.1, HI.out.2.drew⟩
      clear hX0 HI l1
      refine wpAnyH_ready (rs := [29]) (by kernel_rfl) (by simp) ?_
      refine AllReadyH.cons (o := { dst := some 38, op := Op.buildSlice 58 4 #[(0, Operand.tmp 16), (1, Operand.tmp 23), (2, Operand.tmp 30), (3, Operand.tmp 37)], type := 58, pos := "ref.go:236", after := #[{ on := 7, ground := Ground.data }, { on := 14, ground := Ground.data }, { on := 21, ground := Ground.data }, { on := 28, ground := Ground.data }], guard := none }) rfl (fun K hK => ?_) AllReadyH.nil
      go_simp
      refine hK.out _ _ ((World.cell?_alloc_lt _ _ _ (Nat.lt_of_lt_of_le HB0.out.2 HX0.out.2.size)).trans hHeld) (fun hH1 => ?_)
      clear hK K
      try simp only [Act.put, List.getElem_toArray, List.getElem_cons_zero, List.getElem_cons_succ, List.setIfInBounds_toArray, List.set_cons_zero, List.set_cons_succ]
      refine wpAnyH_ready (rs := [30]) (by kernel_rfl) (by simp) ?_
      refine AllReadyH.cons (o := { dst := some 39, op := Op.call { callee := Callee.builtin Builtin.append, args := #[Operand.tmp 9, Operand.tmp 38], argTypes := #[58, 58] }, type := 58, pos := "ref.go:236", after := #[{ on := 0, ground := Ground.data }, { on := 29, ground := Ground.data }], guard := none }) rfl (fun K hK => ?_) AllReadyH.nil
      refine step_append_ents rfl _ _ rfl W0.heap.size _ (escTo i) rfl (World.ownsRow.alloc HX0.out.1 _) ⟨X0.heap.size, 0, none⟩ 4 4 (escRound i) rfl rfl (by rw [HRD.out]; exact lit_cells X0 _ _ _ rfl) (by have := escTo_len i; rw [this]; show 4 * i + 4 ≤ _; omega) (by have := HX0.out.2.size; simp; omega) ?_
      intro v' W2 ho hb
      refine hK.out _ _ (((HX0.out.2.alloc HX0.out.2.size _).trans hb).cell (p := ⟨w.heap.size, 1 + i, none⟩) HB0.out.2 |>.trans l0.out) (fun hH2 => ?_)
      clear hK K
      try simp only [Act.put, List.getElem_toArray, List.getElem_cons_zero, List.getElem_cons_succ, List.setIfInBounds_toArray, List.set_cons_zero, List.set_cons_succ]
      refine wpAnyH_take (i := 31) (v := ?v31_59) rfl (by kernel_rfl) (by kernel_rfl) (by kernel_rfl) (fun _ _ _ h => h) (Or.inl ⟨by kernel_rfl, ?h31_59⟩) hH2 ?r31_59
      case h31_59 => (rintro w' q0; go_simp; try (with_reducible rfl))
      try simp only [Act.put, List.getElem_toArray, List.getElem_cons_zero, List.getElem_cons_succ, List.setIfInBounds_toArray, List.set_cons_zero, List.set_cons_succ]
      refine wpAnyH_done (by kernel_rfl) ?_ _
      try simp only [Act.put, List.getElem_toArray, List.getElem_cons_zero, List.getElem_cons_succ, List.setIfInBounds_toArray, List.set_cons_zero, List.set_cons_succ]
      clear hH2 hH1 hHeld
      go_wp2_with fail
      go_roundg (8 - (i + 1))
      case measure => omega
      case rel => exact ⟨i + 1, by first | rfl | go_num, by omega, by omega, by rw [escTo_succ]; exact ho, (HX0.out.2.alloc HX0.out.2.size _).trans hb⟩
    · have hi8 : i = 8 := by omega
      subst hi8
      go_wp2_with (at_builtin; refine append_ents rfl _ _ rfl W0.heap.size _ (escTo 8) rfl (World.ownsRow.alloc HI.out.1 _) ⟨wr.heap.size, 0, none⟩ 8 8 escTail rfl rfl (lit_cells wr (escTail.flatMap entCells) _ _ rfl) (by decide) (by have := HI.out.2.size; simp; omega) ?_; intro v' W2 ho hb)
      go_ret
      exact ⟨_, rfl, OwnE.base ho HB0.out.1.size, HB0.out.1.trans (((HI.out.2.alloc HI.out.2.size _).trans hb).mono HB0.out.1.size)⟩
end Go.Proofs.YtemhfcgkfdklhaaGreatDoor.Look
