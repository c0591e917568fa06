/- escape.parse. -/
import Derived.Test.YtemhfcgkfdklhaaGreatDoorEsc2
set_option linter.unusedVariables false
namespace Go.Proofs.YtemhfcgkfdklhaaGreatDoor.Look
open Go Go.RowKit Go.Shelf Go.Proofs Go.Proofs.YtemhfcgkfdklhaaGreatDoor.Rd

set_option maxHeartbeats 8000000 in
set_option maxRecDepth 100000 in
theorem cParse (a : Option Addr) (cp : Nat) (l : List Int) (w : World) (hl : RowB w a l) (hcp : l.length ≤ cp) (hn : cp ≤ 9223372036854775807) (hn2 : l.length ≤ 2000000) : Calls Tryz.prog 65 #[.slice a l.length cp] w fun e w' => e = .returned (.tuple #[.int .i64 (parseV l).1, .int .i64 (parseV l).2.1, .int .i64 (parseV l).2.2]) ∧ Below w.heap.size w w' := by
  match l with
  | [] =>
    clear hl
    show Calls _ _ #[.slice a 0 cp] w _
    go_enter Tryz.func65, Tryz.ntmps65
    go_wp2
    all_goals exact bodyPost_ret (v := .tuple #[.int .i64 0, .int .i64 0, .int .i64 0]) (by simp [results, Tryz.results65, go_sem]) rfl ⟨rfl, Below.refl _ _⟩
  | c :: t =>
    obtain ⟨b, off, rfl, hb, hc⟩ := hl (by simp)
    have hc0 : w.cell? ⟨b, off, none⟩ = some (.int .u8 c) := hc 0 c rfl
    have hrow : ∀ E, (t ≠ [] → E = some ⟨b, off + 1, none⟩) → RowB w E t := fun E hE ht => ⟨b, off + 1, hE ht, hb, fun j x hx => by
      have := hc (j + 1) x (by simpa using hx)
      rwa [show off + (j + 1) = off + 1 + j by omega] at this⟩
    rw [List.length_cons] at hcp hn2 ⊢
    have HT : Aside (t ≠ [] → ¬ cp = 1) := fun ht e => ht (List.eq_nil_of_length_eq_zero (by omega))
    replace hn2 : t.length ≤ 2000000 := by omega
    rw [parseV_cons]
    clear hl hc
    by_cases h41 : c = 41
    · subst h41
      rw [if_pos (.inl rfl)]
      have h2 := oneV_le t
      have H1 : Hid (∀ E, (t ≠ [] → E = some ⟨b, off + 1, none⟩) → Calls Tryz.prog 87 #[.slice E t.length (cp - 1)] w fun e w' => e = .returned (.tuple #[.int .i64 (oneV t).1, .int .i64 (oneV t).2]) ∧ Below w.heap.size w w') := fun E hE => cOne E (cp - 1) t w (hrow E hE) hn2
      have C1 := H1.out (if cp = 1 then some ⟨b, off, none⟩ else some ⟨b, off + 1, none⟩) (fun ht => if_neg (HT.out ht))
      clear H1
      generalize oneV t = R at C1 h2 ⊢
      obtain ⟨st, n⟩ := R
      simp only at C1 h2 ⊢
      have HC := Lib.hid C1
      clear C1 hrow HT
      obtain ⟨h2, h3, h4⟩ := h2
      clear h4
      by_cases h5 : 0 < n
      · rw [if_pos h5]
        have HN : Aside (0 ≤ n ∧ n ≤ 2000000 ∧ 0 < n) := ⟨h2, by omega, h5⟩
        clear h2 h3 h5 hn2
        go_enter Tryz.func65, Tryz.ntmps65
        go_wp2_with (go_at_call 87; refine HC.out.mono ?_; rintro e w1 ⟨rfl, hb1⟩; have k1 := HN.out.1; have k2 := HN.out.2.1; have k5 := HN.out.2.2; clear HN HC)
        all_goals exact bodyPost_ret (v := .tuple #[.int .i64 1, .int .i64 st, .int .i64 (n + 1)]) (by simp [results, Tryz.results65, go_sem]) rfl ⟨rfl, hb1⟩
      · rw [if_neg h5]
        have HN : Aside (0 ≤ n ∧ n ≤ 2000000 ∧ ¬ 0 < n) := ⟨h2, by omega, h5⟩
        clear h2 h3 h5 hn2
        go_enter Tryz.func65, Tryz.ntmps65
        go_wp2_with (go_at_call 87; refine HC.out.mono ?_; rintro e w1 ⟨rfl, hb1⟩; have k1 := HN.out.1; have k2 := HN.out.2.1; have k5 := HN.out.2.2; clear HN HC)
        all_goals exact bodyPost_ret (v := .tuple #[.int .i64 1, .int .i64 st, .int .i64 n]) (by simp [results, Tryz.results65, go_sem]) rfl ⟨rfl, hb1⟩
    · have b41 : (c == 41) = false := by simpa using h41
      by_cases h45 : c = 45
      · subst h45
        rw [if_pos (.inr rfl)]
        clear h41
        have h2 := oneV_le t
        have H1 : Hid (∀ E, (t ≠ [] → E = some ⟨b, off + 1, none⟩) → Calls Tryz.prog 87 #[.slice E t.length (cp - 1)] w fun e w' => e = .returned (.tuple #[.int .i64 (oneV t).1, .int .i64 (oneV t).2]) ∧ Below w.heap.size w w') := fun E hE => cOne E (cp - 1) t w (hrow E hE) hn2
        have C1 := H1.out (if cp = 1 then some ⟨b, off, none⟩ else some ⟨b, off + 1, none⟩) (fun ht => if_neg (HT.out ht))
        clear H1
        generalize oneV t = R at C1 h2 ⊢
        obtain ⟨st, n⟩ := R
        simp only at C1 h2 ⊢
        have HC := Lib.hid C1
        clear C1 hrow HT
        obtain ⟨h2, h3, h4⟩ := h2
        clear h4
        by_cases h5 : 0 < n
        · rw [if_pos h5]
          have HN : Aside (0 ≤ n ∧ n ≤ 2000000 ∧ 0 < n) := ⟨h2, by omega, h5⟩
          clear h2 h3 h5 hn2
          go_enter Tryz.func65, Tryz.ntmps65
          go_wp2_with (go_at_call 87; refine HC.out.mono ?_; rintro e w1 ⟨rfl, hb1⟩; have k1 := HN.out.1; have k2 := HN.out.2.1; have k5 := HN.out.2.2; clear HN HC)
          all_goals exact bodyPost_ret (v := .tuple #[.int .i64 1, .int .i64 st, .int .i64 (n + 1)]) (by simp [results, Tryz.results65, go_sem]) rfl ⟨rfl, hb1⟩
        · rw [if_neg h5]
          have HN : Aside (0 ≤ n ∧ n ≤ 2000000 ∧ ¬ 0 < n) := ⟨h2, by omega, h5⟩
          clear h2 h3 h5 hn2
          go_enter Tryz.func65, Tryz.ntmps65
          go_wp2_with (go_at_call 87; refine HC.out.mono ?_; rintro e w1 ⟨rfl, hb1⟩; have k1 := HN.out.1; have k2 := HN.out.2.1; have k5 := HN.out.2.2; clear HN HC)
          all_goals exact bodyPost_ret (v := .tuple #[.int .i64 1, .int .i64 st, .int .i64 n]) (by simp [results, Tryz.results65, go_sem]) rfl ⟨rfl, hb1⟩
      · have b45 : (c == 45) = false := by simpa using h45
        rw [if_neg (fun h => h.elim h41 h45)]
        clear h41 h45
        by_cases h40 : c = 40
        · subst h40
          rw [if_pos (.inl rfl)]
          have h2 := oneV_le t
          have H1 : Hid (∀ E, (t ≠ [] → E = some ⟨b, off + 1, none⟩) → Calls Tryz.prog 87 #[.slice E t.length (cp - 1)] w fun e w' => e = .returned (.tuple #[.int .i64 (oneV t).1, .int .i64 (oneV t).2]) ∧ Below w.heap.size w w') := fun E hE => cOne E (cp - 1) t w (hrow E hE) hn2
          have C1 := H1.out (if cp = 1 then some ⟨b, off, none⟩ else some ⟨b, off + 1, none⟩) (fun ht => if_neg (HT.out ht))
          clear H1
          generalize oneV t = R at C1 h2 ⊢
          obtain ⟨st, n⟩ := R
          simp only at C1 h2 ⊢
          have HC := Lib.hid C1
          clear C1 hrow HT
          obtain ⟨h2, h3, h4⟩ := h2
          clear h4
          by_cases h5 : 0 < n
          · rw [if_pos h5]
            have HN : Aside (0 ≤ n ∧ n ≤ 2000000 ∧ 0 < n) := ⟨h2, by omega, h5⟩
            clear h2 h3 h5 hn2
            go_enter Tryz.func65, Tryz.ntmps65
            go_wp2_with (go_at_call 87; refine HC.out.mono ?_; rintro e w1 ⟨rfl, hb1⟩; have k1 := HN.out.1; have k2 := HN.out.2.1; have k5 := HN.out.2.2; clear HN HC)
            all_goals exact bodyPost_ret (v := .tuple #[.int .i64 0, .int .i64 st, .int .i64 (n + 1)]) (by simp [results, Tryz.results65, go_sem]) rfl ⟨rfl, hb1⟩
          · rw [if_neg h5]
            have HN : Aside (0 ≤ n ∧ n ≤ 2000000 ∧ ¬ 0 < n) := ⟨h2, by omega, h5⟩
            clear h2 h3 h5 hn2
            go_enter Tryz.func65, Tryz.ntmps65
            go_wp2_with (go_at_call 87; refine HC.out.mono ?_; rintro e w1 ⟨rfl, hb1⟩; have k1 := HN.out.1; have k2 := HN.out.2.1; have k5 := HN.out.2.2; clear HN HC)
            all_goals exact bodyPost_ret (v := .tuple #[.int .i64 0, .int .i64 st, .int .i64 n]) (by simp [results, Tryz.results65, go_sem]) rfl ⟨rfl, hb1⟩
        · have b40 : (c == 40) = false := by simpa using h40
          by_cases h44 : c = 44
          · subst h44
            rw [if_pos (.inr rfl)]
            clear h40
            have h2 := oneV_le t
            have H1 : Hid (∀ E, (t ≠ [] → E = some ⟨b, off + 1, none⟩) → Calls Tryz.prog 87 #[.slice E t.length (cp - 1)] w fun e w' => e = .returned (.tuple #[.int .i64 (oneV t).1, .int .i64 (oneV t).2]) ∧ Below w.heap.size w w') := fun E hE => cOne E (cp - 1) t w (hrow E hE) hn2
            have C1 := H1.out (if cp = 1 then some ⟨b, off, none⟩ else some ⟨b, off + 1, none⟩) (fun ht => if_neg (HT.out ht))
            clear H1
            generalize oneV t = R at C1 h2 ⊢
            obtain ⟨st, n⟩ := R
            simp only at C1 h2 ⊢
            have HC := Lib.hid C1
            clear C1 hrow HT
            obtain ⟨h2, h3, h4⟩ := h2
            clear h4
            by_cases h5 : 0 < n
            · rw [if_pos h5]
              have HN : Aside (0 ≤ n ∧ n ≤ 2000000 ∧ 0 < n) := ⟨h2, by omega, h5⟩
              clear h2 h3 h5 hn2
              go_enter Tryz.func65, Tryz.ntmps65
              go_wp2_with (go_at_call 87; refine HC.out.mono ?_; rintro e w1 ⟨rfl, hb1⟩; have k1 := HN.out.1; have k2 := HN.out.2.1; have k5 := HN.out.2.2; clear HN HC)
              all_goals exact bodyPost_ret (v := .tuple #[.int .i64 0, .int .i64 st, .int .i64 (n + 1)]) (by simp [results, Tryz.results65, go_sem]) rfl ⟨rfl, hb1⟩
            · rw [if_neg h5]
              have HN : Aside (0 ≤ n ∧ n ≤ 2000000 ∧ ¬ 0 < n) := ⟨h2, by omega, h5⟩
              clear h2 h3 h5 hn2
              go_enter Tryz.func65, Tryz.ntmps65
              go_wp2_with (go_at_call 87; refine HC.out.mono ?_; rintro e w1 ⟨rfl, hb1⟩; have k1 := HN.out.1; have k2 := HN.out.2.1; have k5 := HN.out.2.2; clear HN HC)
              all_goals exact bodyPost_ret (v := .tuple #[.int .i64 0, .int .i64 st, .int .i64 n]) (by simp [results, Tryz.results65, go_sem]) rfl ⟨rfl, hb1⟩
          · have b44 : (c == 44) = false := by simpa using h44
            rw [if_neg (fun h => h.elim h40 h44)]
            clear h40 h44
            by_cases h36 : c = 36
            · subst h36
              rw [if_pos rfl]
              have h2 := eastV_le t
              have H1 : Hid (∀ E, (t ≠ [] → E = some ⟨b, off + 1, none⟩) → Calls Tryz.prog 88 #[.slice E t.length (cp - 1)] w fun e w' => e = .returned (.tuple #[.int .i64 (eastV t).1, .int .i64 (eastV t).2]) ∧ Below w.heap.size w w') := fun E hE => cEast E (cp - 1) t w (hrow E hE) hn2
              have C1 := H1.out (if cp = 1 then some ⟨b, off, none⟩ else some ⟨b, off + 1, none⟩) (fun ht => if_neg (HT.out ht))
              clear H1
              generalize eastV t = R at C1 h2 ⊢
              obtain ⟨sd, n⟩ := R
              simp only at C1 h2 ⊢
              have HC := Lib.hid C1
              clear C1 hrow HT
              obtain ⟨h2, h3, h4⟩ := h2
              clear h4
              by_cases h5 : 0 < n
              · rw [if_pos h5]
                have HN : Aside (0 ≤ n ∧ n ≤ 2000000 ∧ 0 < n) := ⟨h2, by omega, h5⟩
                clear h2 h3 h5 hn2
                go_enter Tryz.func65, Tryz.ntmps65
                go_wp2_with (go_at_call 88; refine HC.out.mono ?_; rintro e w1 ⟨rfl, hb1⟩; have k1 := HN.out.1; have k2 := HN.out.2.1; have k5 := HN.out.2.2; clear HN HC)
                all_goals exact bodyPost_ret (v := .tuple #[.int .i64 sd, .int .i64 9, .int .i64 (n + 1)]) (by simp [results, Tryz.results65, go_sem]) rfl ⟨rfl, hb1⟩
              · rw [if_neg h5]
                have HN : Aside (0 ≤ n ∧ n ≤ 2000000 ∧ ¬ 0 < n) := ⟨h2, by omega, h5⟩
                clear h2 h3 h5 hn2
                go_enter Tryz.func65, Tryz.ntmps65
                go_wp2_with (go_at_call 88; refine HC.out.mono ?_; rintro e w1 ⟨rfl, hb1⟩; have k1 := HN.out.1; have k2 := HN.out.2.1; have k5 := HN.out.2.2; clear HN HC)
                all_goals exact bodyPost_ret (v := .tuple #[.int .i64 sd, .int .i64 9, .int .i64 n]) (by simp [results, Tryz.results65, go_sem]) rfl ⟨rfl, hb1⟩
            · have b36 : (c == 36) = false := by simpa using h36
              rw [if_neg h36]
              clear h36 hrow HT
              have h2 := smallV_le c
              have cS := cSmallE c w
              generalize smallV c = n at cS h2 ⊢
              obtain ⟨h2, h3⟩ := h2
              by_cases h5 : 0 < n
              · rw [if_pos h5]
                go_enter Tryz.func65, Tryz.ntmps65
                go_wp2_with (go_at_call 89; refine cS.mono ?_; rintro e w1 ⟨rfl, hb1⟩)
                all_goals exact bodyPost_ret (v := .tuple #[.int .i64 0, .int .i64 n, .int .i64 1]) (by simp [results, Tryz.results65, go_sem]) rfl ⟨rfl, hb1⟩
              · rw [if_neg h5]
                go_enter Tryz.func65, Tryz.ntmps65
                go_wp2_with (go_at_call 89; refine cS.mono ?_; rintro e w1 ⟨rfl, hb1⟩)
                all_goals exact bodyPost_ret (v := .tuple #[.int .i64 0, .int .i64 n, .int .i64 0]) (by simp [results, Tryz.results65, go_sem]) rfl ⟨rfl, hb1⟩
end Go.Proofs.YtemhfcgkfdklhaaGreatDoor.Look
