/- slices.stableCmpFunc at runes: the stable sort. -/
import Derived.Test.YtkadmnabhoijdaaDoorLayI
import Derived.Test.YtkadmnabhoijdaaDoorSym
set_option linter.unusedVariables false
namespace Go.Proofs.YtkadmnabhoijdaaDoor.Look
open Go Go.RowKit Go.Shelf Go.Proofs Go.Lib Go.Sort
open Go.Proofs.YtkadmnabhoijdaaDoor.Stab

/-- Blocks of one size, each in order; the last may be shorter. -/
inductive Blks (k : Nat) : List Int → Prop
  | last (l : List Int) : l.length ≤ k → Asc kOf l → Blks k l
  | cons (u l : List Int) : u.length = k → Asc kOf u → Blks k l → Blks k (u ++ l)
/-- Whole blocks alone. -/
inductive Full (k : Nat) : List Int → Prop
  | nil : Full k []
  | snoc (X u : List Int) : Full k X → u.length = k → Asc kOf u → Full k (X ++ u)
theorem Full.blks {k : Nat} {X : List Int} (h : Full k X) : ∀ {Y : List Int}, Blks k Y → Blks k (X ++ Y) := by
  induction h with
  | nil => intro Y hY; simpa using hY
  | snoc X u hX hu ha ih => intro Y hY; rw [List.append_assoc]; exact ih (.cons u Y hu ha hY)
theorem Blks.short {k : Nat} {l : List Int} (h : Blks k l) (hl : l.length ≤ k) : Asc kOf l := by
  cases h with
  | last l h1 h2 => exact h2
  | cons u l h1 h2 h3 =>
    have : l = [] := List.eq_nil_of_length_eq_zero (by simp at hl; omega)
    subst this; simpa using h2
theorem asc_nil : Asc kOf [] := List.Pairwise.nil
/-- The first block, and what follows. -/
theorem Blks.first {k : Nat} {l : List Int} (h : Blks k l) (hl : k ≤ l.length) : ∃ u r, l = u ++ r ∧ u.length = k ∧ Asc kOf u ∧ Blks k r := by
  cases h with
  | last l h1 h2 => exact ⟨l, [], by simp, by omega, h2, .last [] (by simp) asc_nil⟩
  | cons u l h1 h2 h3 => exact ⟨u, l, rfl, h1, h2, h3⟩
theorem sortK_len (l : List Int) : (sortK kOf l).length = l.length := ((sortK_ok (k := kOf) l).1).length

theorem insCall (blk off cap a b : Nat) (d0 d : Array Int) (w0 w : World) (A U B : List Int)
    (R : Row1 enc32 w0 blk off d0) (hs : d0.size = d.size) (S : SW enc32 w0 blk off d w) (hd : d.toList = A ++ U ++ B) (hA : A.length = a) (hb : a + U.length = b) (hsz : d.size < 1152921504606846976) :
    Calls Tryd.prog 29 #[.slice (some ⟨blk, off, none⟩) d.size cap, .int .i64 a, .int .i64 b, .func (.func 19) #[] #[]] w fun e w' => e = .returned (.tuple #[]) ∧ ∃ T : Array Int, SW enc32 w0 blk off T w' ∧ T.size = d.size ∧ T.toList = A ++ sortK kOf U ++ B := by
  have eg : ∀ args w, (callFunc 19 args).run Tryd.prog w = .ok (.enter 19 args) w := enters_of Tryd.func19 (by kernel_rfl) rfl
  have hlen : b ≤ d.size := by rw [← Array.length_toList, hd]; simp; omega
  have h := Any.insertionSortCmpFunc_s Tryd.insRune enc32 cfO 19 #[] blk off cap a b d0 d w0 w eg (cmpLays blk off d0.size w0) R hs S (by omega) hlen (by omega)
  refine h.mono ?_
  rintro e w' ⟨rfl, hS⟩
  have hl := ins_list hd hA hb
  exact ⟨rfl, _, hS, by rw [← Array.length_toList, ← Array.length_toList, hl, hd]; simp [sortK_len], hl⟩
end Go.Proofs.YtkadmnabhoijdaaDoor.Look
set_option linter.unusedVariables false
namespace Go.Proofs.YtkadmnabhoijdaaDoor.Look
open Go Go.RowKit Go.Shelf Go.Proofs Go.Lib Go.Sort
open Go.Proofs.YtkadmnabhoijdaaDoor.Stab

set_option maxHeartbeats 64000000 in
set_option maxRecDepth 1000000 in
theorem stb (blk off cap : Nat) (d : Array Int) (w0 : World) (R : Row1 enc32 w0 blk off d) (hsz : d.size < 1152921504606846976) :
    Calls Tryd.prog 25 #[.slice (some ⟨blk, off, none⟩) d.size cap, .int .i64 d.size, .func (.func 19) #[] #[]] w0 fun e w' => e = .returned (.tuple #[]) ∧ ∃ T : Array Int, SW enc32 w0 blk off T w' ∧ T.size = d.size ∧ T.toList = sortK kOf d.toList := by
  -- the calls, at the numbers that the program works out
  have HI : Aside (∀ (dk : Array Int) (wr : World) (x y : Int) (A U B : List Int), dk.size = d.size → SW enc32 w0 blk off dk wr → dk.toList = A ++ U ++ B → (A.length : Int) = x → (A.length : Int) + U.length = y →
      Calls Tryd.prog 29 #[.slice (some ⟨blk, off, none⟩) d.size cap, .int .i64 x, .int .i64 y, .func (.func 19) #[] #[]] wr fun e w' => e = .returned (.tuple #[]) ∧ ∃ T : Array Int, SW enc32 w0 blk off T w' ∧ T.size = d.size ∧ T.toList = A ++ sortK kOf U ++ B) := by
    intro dk wr x y A U B h1 h2 h3 h4 h5
    have := insCall blk off cap A.length (A.length + U.length) d dk w0 wr A U B R (by omega) h2 h3 rfl rfl (by omega)
    rw [h1] at this
    rw [← h4, ← h5]
    simpa using this
  have HM : Aside (∀ (dk : Array Int) (wr : World) (x y z : Int) (A U V B : List Int), dk.size = d.size → SW enc32 w0 blk off dk wr → dk.toList = A ++ U ++ V ++ B → (A.length : Int) = x → (A.length : Int) + U.length = y → (A.length : Int) + U.length + V.length = z → 0 < U.length → 0 < V.length → Asc kOf U → Asc kOf V →
      Calls Tryd.prog 30 #[.slice (some ⟨blk, off, none⟩) d.size cap, .int .i64 x, .int .i64 y, .int .i64 z, .func (.func 19) #[] #[]] wr fun e w' => e = .returned (.tuple #[]) ∧ ∃ T : Array Int, SW enc32 w0 blk off T w' ∧ T.size = d.size ∧ ∃ S, IsMerge kOf U V S ∧ T.toList = A ++ S ++ B) := by
    intro dk wr x y z A U V B h1 h2 h3 h4 h5 h6 h7 h8 h9 h10
    have := sym _ A.length (A.length + U.length) (A.length + U.length + V.length) (Nat.le_refl _) (by omega) (by omega) blk off cap d dk w0 wr A U V B R (by omega) h2 h3 rfl rfl rfl h9 h10 (by omega)
    rw [h1] at this
    rw [← h4, ← h5, ← h6]
    simpa using this
  have S0 : Aside (SW enc32 w0 blk off d w0) := SW.start R.hH
  obtain ⟨n, hn⟩ : ∃ n, n = d.size := ⟨_, rfl⟩
  have HN : Aside (n = d.toList.length) := by show _ = _; rw [hn, Array.length_toList]
  obtain ⟨L, hL⟩ : ∃ L, L = d.toList := ⟨_, rfl⟩
  rw [← hn] at hsz
  have HL : Aside (L = d.toList ∧ n = d.size) := ⟨hL, hn⟩
  rw [← hn, ← hL]
  rw [← hn] at HI HM
  clear R
  rw [← hL] at HN
  have D0 : Aside (d.size = n ∧ d.toList = L) := ⟨hn.symm, hL.symm⟩
  clear hn hL HL
  go_enter Tryd.func25, Tryd.ntmps25
  go_wp2
  -- blocks of twenty
  go_loopg [7, 8] n (fun g1 va vb wr => ∃ (a : Nat) (dk : Array Int), va = .int .i64 a ∧ vb = .int .i64 ((a : Int) + 20) ∧ a ≤ n ∧ n - a ≤ g1 ∧ Aside (SW enc32 w0 blk off dk wr) ∧ Aside (dk.size = n ∧ ∃ X Y, dk.toList = X ++ Y ∧ X.length = a ∧ Full 20 X ∧ Keeps kOf L dk.toList))
  case atStart => exact ⟨0, d, rfl, by first | rfl | go_num, by omega, by omega, S0, ⟨D0.out.1, [], L, by simpa using D0.out.2, rfl, .nil, by rw [D0.out.2]; exact Keeps.refl _⟩⟩
  case round =>
    clear S0 D0
    obtain ⟨a, dk, rfl, rfl, han, hg1, SJ, HK⟩ := hrel
    by_cases hlt : a + 20 ≤ n
    · have hltz : (a : Int) + 20 ≤ (n : Int) := by omega
      have HC : Aside (Calls Tryd.prog 29 #[.slice (some ⟨blk, off, none⟩) n cap, .int .i64 a, .int .i64 ((a : Int) + 20), .func (.func 19) #[] #[]] wr fun e w' => e = .returned (.tuple #[]) ∧ ∃ T : Array Int, SW enc32 w0 blk off T w' ∧ (T.size = n ∧ ∃ X Y, T.toList = X ++ Y ∧ X.length = a + 20 ∧ Full 20 X ∧ Keeps kOf L T.toList)) := by
        obtain ⟨h1, X, Y, h2, h3, h4, h5⟩ := HK.out
        have hl : dk.toList.length = n := by rw [Array.length_toList]; exact h1
        rw [h2] at hl
        simp at hl
        refine (HI.out dk wr _ _ X (Y.take 20) (Y.drop 20) h1 SJ.out (by rw [h2, List.append_assoc, List.take_append_drop]) (by omega) (by simp; omega)).mono ?_
        rintro e w' ⟨rfl, T, g1, g2, g3⟩
        refine ⟨rfl, T, g1, g2, X ++ sortK kOf (Y.take 20), Y.drop 20, by rw [g3], by simp [sortK_len]; omega, .snoc X _ h4 (by rw [sortK_len]; simp; omega) (sortK_ok _).2, ?_⟩
        refine Keeps.trans h5 ?_
        rw [g3, h2]
        have := ((Keeps.refl (k := kOf) X).append (sortK_ok (k := kOf) (Y.take 20)).1).append (Keeps.refl (k := kOf) (Y.drop 20))
        rw [List.append_assoc, List.take_append_drop] at this
        exact this
      clear SJ HK
      go_wp2_with (go_at_call 29; refine HC.out.mono ?_; rintro e w2 ⟨rfl, T, S2', hT'⟩; have S2 : Aside _ := S2'; have hT : Aside _ := hT'; clear S2' hT' HC)
      go_roundg (n - (a + 20))
      case measure => omega
      case rel => exact ⟨a + 20, T, by first | rfl | go_num | (congr 1; omega), by first | rfl | go_num | (congr 1; omega), by omega, by omega, S2, hT⟩
    · have hltz : ¬ (a : Int) + 20 ≤ (n : Int) := by omega
      have HC : Aside (Calls Tryd.prog 29 #[.slice (some ⟨blk, off, none⟩) n cap, .int .i64 a, .int .i64 n, .func (.func 19) #[] #[]] wr fun e w' => e = .returned (.tuple #[]) ∧ ∃ T : Array Int, SW enc32 w0 blk off T w' ∧ (T.size = n ∧ Blks 20 T.toList ∧ Keeps kOf L T.toList)) := by
        obtain ⟨h1, X, Y, h2, h3, h4, h5⟩ := HK.out
        have hl : dk.toList.length = n := by rw [Array.length_toList]; exact h1
        rw [h2] at hl
        simp at hl
        refine (HI.out dk wr _ _ X Y [] h1 SJ.out (by rw [h2]; simp) (by omega) (by omega)).mono ?_
        rintro e w' ⟨rfl, T, g1, g2, g3⟩
        rw [List.append_nil] at g3
        refine ⟨rfl, T, g1, g2, by rw [g3]; exact h4.blks (.last _ (by rw [sortK_len]; omega) (sortK_ok _).2), Keeps.trans h5 ?_⟩
        rw [g3, h2]
        exact (Keeps.refl (k := kOf) X).append (sortK_ok (k := kOf) Y).1
      clear SJ HK
      go_wp2_with (go_at_call 29; refine HC.out.mono ?_; rintro e w2 ⟨rfl, T, S2', hT'⟩; have S2 : Aside _ := S2'; have hT : Aside _ := hT'; clear S2' hT' HC)
      have hk0 : Aside (∃ T : Array Int, SW enc32 w0 blk off T w2 ∧ T.size = n ∧ Blks 20 T.toList ∧ Keeps kOf L T.toList) := ⟨T, S2.out, hT.out⟩
      clear S2 hT T
      go_loopg [6] n (fun g1 vk wr => ∃ (k : Nat), vk = .int .i64 k ∧ 20 ≤ k ∧ k ≤ 2 * n + 20 ∧ n - k ≤ g1 ∧ Aside (∃ T : Array Int, SW enc32 w0 blk off T wr ∧ T.size = n ∧ Blks k T.toList ∧ Keeps kOf L T.toList))
      case atStart => exact ⟨20, by first | rfl | go_num, by omega, by omega, by omega, hk0⟩
      case round =>
        clear hk0 hltz hlt
        obtain ⟨k, rfl, hk20, hkn, hg2, HK⟩ := hrel
        by_cases hkl : k < n
        · have hklz : (k : Int) < (n : Int) := by omega
          go_wp2
          go_loopg [7, 8] n (fun g1 va vb wr => ∃ (a : Nat), va = .int .i64 a ∧ vb = .int .i64 ((a : Int) + 2 * (k : Int)) ∧ a ≤ n ∧ n - a ≤ g1 ∧ Aside (∃ dk : Array Int, SW enc32 w0 blk off dk wr ∧ dk.size = n ∧ ∃ X Y, dk.toList = X ++ Y ∧ X.length = a ∧ Full (2 * k) X ∧ Blks k Y ∧ Keeps kOf L dk.toList))
          case atStart =>
            obtain ⟨T, g1, g2, g3, g4⟩ := HK.out
            exact ⟨0, rfl, by first | rfl | go_num | (congr 1; omega), by omega, by omega, ⟨T, g1, g2, [], T.toList, rfl, rfl, .nil, g3, g4⟩⟩
          case round =>
            clear HK
            obtain ⟨a, rfl, rfl, han, hg3, HK⟩ := hrel
            by_cases hlt : a + 2 * k ≤ n
            · have hltz : (a : Int) + 2 * (k : Int) ≤ (n : Int) := by omega
              have HC : Aside (Calls Tryd.prog 30 #[.slice (some ⟨blk, off, none⟩) n cap, .int .i64 a, .int .i64 ((a : Int) + (k : Int)), .int .i64 ((a : Int) + 2 * (k : Int)), .func (.func 19) #[] #[]] wr fun e w' => e = .returned (.tuple #[]) ∧ Aside (∃ T : Array Int, SW enc32 w0 blk off T w' ∧ (T.size = n ∧ ∃ X Y, T.toList = X ++ Y ∧ X.length = a + 2 * k ∧ Full (2 * k) X ∧ Blks k Y ∧ Keeps kOf L T.toList))) := by
                obtain ⟨dk, hS, h1, X, Y, h2, h3, h4, h5, h6⟩ := HK.out
                have hl : dk.toList.length = n := by rw [Array.length_toList]; exact h1
                rw [h2] at hl
                simp at hl
                obtain ⟨u, r, rfl, hu1, hu2, hr⟩ := h5.first (by omega)
                simp at hl
                obtain ⟨v, r2, rfl, hv1, hv2, hr2⟩ := hr.first (by omega)
                simp at hl
                refine (HM.out dk wr _ _ _ X u v r2 h1 hS (by rw [h2]; simp) (by omega) (by omega) (by omega) (by omega) (by omega) hu2 hv2).mono ?_
                rintro e w' ⟨rfl, T, g1, g2, M, g3, g4⟩
                have hM := g3.1.length
                simp at hM
                refine ⟨rfl, T, g1, g2, X ++ M, r2, by rw [g4], by simp; omega, .snoc X _ h4 (by omega) g3.2, hr2, Keeps.trans h6 ?_⟩
                rw [g4, h2]
                have := ((Keeps.refl (k := kOf) X).append g3.1).append (Keeps.refl (k := kOf) r2)
                simpa using this
              clear HK
              go_wp2_with (go_at_call 30; refine HC.out.mono ?_; rintro e w2 ⟨rfl, hT⟩; clear HC)
              go_roundg (n - (a + 2 * k))
              case measure => omega
              case rel => exact ⟨a + 2 * k, by first | rfl | go_num | (congr 1; omega), by first | rfl | go_num | (congr 1; omega), by omega, by omega, hT⟩
            · have hltz : ¬ (a : Int) + 2 * (k : Int) ≤ (n : Int) := by omega
              by_cases hm : a + k < n
              · have hmz : (a : Int) + (k : Int) < (n : Int) := by omega
                have HC : Aside (Calls Tryd.prog 30 #[.slice (some ⟨blk, off, none⟩) n cap, .int .i64 a, .int .i64 ((a : Int) + (k : Int)), .int .i64 n, .func (.func 19) #[] #[]] wr fun e w' => e = .returned (.tuple #[]) ∧ Aside (∃ T : Array Int, SW enc32 w0 blk off T w' ∧ T.size = n ∧ Blks (2 * k) T.toList ∧ Keeps kOf L T.toList)) := by
                  obtain ⟨dk, hS, h1, X, Y, h2, h3, h4, h5, h6⟩ := HK.out
                  have hl : dk.toList.length = n := by rw [Array.length_toList]; exact h1
                  rw [h2] at hl
                  simp at hl
                  obtain ⟨u, r, rfl, hu1, hu2, hr⟩ := h5.first (by omega)
                  simp at hl
                  refine (HM.out dk wr _ _ _ X u r [] h1 hS (by rw [h2]; simp) (by omega) (by omega) (by omega) (by omega) (by omega) hu2 (hr.short (by omega))).mono ?_
                  rintro e w' ⟨rfl, T, g1, g2, M, g3, g4⟩
                  have hM := g3.1.length
                  simp at hM
                  rw [List.append_nil] at g4
                  refine ⟨rfl, T, g1, g2, by rw [g4]; exact h4.blks (.last _ (by omega) g3.2), Keeps.trans h6 ?_⟩
                  rw [g4, h2]
                  exact (Keeps.refl (k := kOf) X).append g3.1
                clear HK
                go_wp2_with (go_at_call 30; refine HC.out.mono ?_; rintro e w2 ⟨rfl, hT⟩; clear HC)
                go_roundg (n - 2 * k)
                case measure => omega
                case rel => exact ⟨2 * k, by first | rfl | go_num | (congr 1; omega), by omega, by omega, by omega, hT⟩
              · have hmz : ¬ (a : Int) + (k : Int) < (n : Int) := by omega
                go_wp2
                go_roundg (n - 2 * k)
                case measure => omega
                case rel =>
                  obtain ⟨dk, hS, h1, X, Y, h2, h3, h4, h5, h6⟩ := HK.out
                  have hl : dk.toList.length = n := by rw [Array.length_toList]; exact h1
                  rw [h2] at hl
                  simp at hl
                  exact ⟨2 * k, by first | rfl | go_num | (congr 1; omega), by omega, by omega, by omega, ⟨dk, hS, h1, by rw [h2]; exact h4.blks (.last _ (by omega) (h5.short (by omega))), h6⟩⟩
        · have hklz : ¬ (k : Int) < (n : Int) := by omega
          go_wp2
          go_end0
          obtain ⟨T, g1, g2, g3, g4⟩ := HK.out
          exact ⟨rfl, T, g1, g2, sortK_of g4 (g3.short (by rw [Array.length_toList, g2]; omega))⟩
end Go.Proofs.YtkadmnabhoijdaaDoor.Look
