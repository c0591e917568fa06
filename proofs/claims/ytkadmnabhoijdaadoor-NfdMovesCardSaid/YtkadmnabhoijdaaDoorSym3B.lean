/- slices.symMergeCmpFunc at runes, the general case (m ≤ mid); printed by mksym3.py. -/
import Derived.Test.YtkadmnabhoijdaaDoorSymP
set_option linter.unusedVariables false
namespace Go.Proofs.YtkadmnabhoijdaaDoor.Look
open Go Go.RowKit Go.Shelf Go.Proofs Go.Lib Go.Sort
open Go.Proofs.YtkadmnabhoijdaaDoor.Stab

set_option maxHeartbeats 64000000 in
set_option maxRecDepth 1000000 in
theorem sym3B (a m b mid : Nat) (ham : a + 1 < m) (hmb : m + 1 < b) (hmid : mid = (a + b) / 2) (hcase : m ≤ mid)
    (I1 : ∀ s, a < s → s < mid → SymAt a s mid) (I2 : ∀ e, mid < e → e < b → SymAt mid e b) : SymAt a m b := by
  intro blk off cap d0 d w0 w A U V Q R hs S hd hA hU hV hascU hascV hsz
  have mixed : Tryd.prog.follows Departure.mixedOrders = true := by kernel_rfl
  have hlen : b ≤ d.size := by rw [← Array.length_toList, hd]; simp; omega
  have HC : Aside (CmpLays1 Tryd.prog 19 #[] enc32 cfO blk off d0.size w0) := cmpLays blk off d0.size w0
  have S0 : Aside (SW enc32 w0 blk off d w) := S
  have HD : Aside (d.toList = A ++ U ++ V ++ Q ∧ A.length = a ∧ a + U.length = m ∧ m + V.length = b) := ⟨hd, hA, hU, hV⟩
  have HV : Aside (Asc kOf U ∧ Asc kOf V) := ⟨hascU, hascV⟩
  have hma : ¬ (m : Int) - (a : Int) = 1 := by omega
  have hmf : ((m : Int) - (a : Int) == 1) = false := by simpa using hma
  have hba : ¬ (b : Int) - (m : Int) = 1 := by omega
  have hbf : ((b : Int) - (m : Int) == 1) = false := by simpa using hba
  have hmm1 : a < mid := by omega
  have hmm2 : mid < b := by omega
  have hmm3 : 2 * mid ≤ a + b := by omega
  have hmm4 : a + b ≤ 2 * mid + 1 := by omega
  have hmidz : ((a : Int) + (b : Int)) / 2 = (mid : Int) := by omega
  have J1 : Aside (∀ s, a < s → s < mid → SymAt a s mid) := I1
  have J2 : Aside (∀ e, mid < e → e < b → SymAt mid e b) := I2
  clear S hd hA hU hV hascU hascV hmid I1 I2
  have hgt : ¬ (mid : Int) < (m : Int) := by omega
  go_enter Tryd.func30, Tryd.ntmps30
  go_wp2
  go_loopg [20, 21] (b - a) (fun g1 vs vr wr => ∃ (s r : Nat), vs = .int .i64 s ∧ vr = .int .i64 r ∧ a ≤ s ∧ s ≤ r ∧ r ≤ m ∧ r - s ≤ g1 ∧ Aside (SW enc32 w0 blk off d wr) ∧ Aside ((a < s → kOf d[s - 1]! ≤ kOf d[mid + m - 1 - (s - 1)]!) ∧ (r < m → kOf d[mid + m - 1 - r]! < kOf d[r]!)))
  case atStart => exact ⟨a, m, rfl, rfl, by omega, by omega, by omega, by omega, S0, ⟨fun h => by omega, fun h => by omega⟩⟩
  case round =>
    clear S0
    obtain ⟨s, r, rfl, rfl, hls, hsr, hrh, hg1, SJ, HI⟩ := hrel
    by_cases hlt : s < r
    · have hltz : (s : Int) < (r : Int) := by omega
      obtain ⟨c, hc⟩ : ∃ c, c = (s + r) / 2 := ⟨_, rfl⟩
      have hc1 : s ≤ c := by omega
      have hc2 : c < r := by omega
      obtain ⟨q, hq⟩ : ∃ q, q + 1 + c = mid + m := ⟨mid + m - 1 - c, by omega⟩
      have hqz : (mid : Int) + (m : Int) - 1 - ((s : Int) + (r : Int)) / 2 = (q : Int) := by omega
      have bq : (q : Int) < (d.size : Int) := by omega
      have rq : IntKind.i64.wrap (q : Int) = (q : Int) := by rw [IntKind.wrap_i64]; omega
      have ec : (((s : Int) + (r : Int)) / 2).toNat = c := by omega
      have pc : (0 : Int) ≤ ((s : Int) + (r : Int)) / 2 := by omega
      have bc : ((s : Int) + (r : Int)) / 2 < (d.size : Int) := by omega
      have HE : Aside (c = (s + r) / 2) := hc
      clear hc
      have hqs : q < d.size := by omega
      have hcs : c < d.size := by omega
      obtain ⟨x, hx⟩ : ∃ x, x = d[c]! := ⟨_, rfl⟩
      obtain ⟨y, hy⟩ : ∃ x, x = d[q]! := ⟨_, rfl⟩
      have l1 := SJ.out.cl R (by omega) q (by omega)
      have l2 := SJ.out.cl R (by omega) c (by omega)
      rw [← hy] at l1
      rw [← hx] at l2
      have HX : Aside (x = d[c]! ∧ y = d[q]! ∧ q + 1 + c = mid + m) := ⟨hx, hy, hq⟩
      have hc : ∀ n os, Calls Tryd.prog 19 #[enc32 y, enc32 x] (grow (wr.drewN n) os) fun e w' => e = .returned (.int .i64 (cfO y x)) ∧ ∃ q os', w' = grow ((grow (wr.drewN n) os).drewN q) os' := fun n os => SJ.out.cmp HC.out (by omega) y x n os
      clear hx hy hq
      by_cases hlt2 : kOf y < kOf x
      · have hd2 : decide (cfO y x < 0) = true := decide_eq_true (by unfold cfO; omega)
        have hv2 : cfO y x < 0 := by unfold cfO; omega
        go_wp2_with fail
        go_quiet_grown (first | (go_at_call 19; refine Calls.grown_of (hc _ _)))
        have S2 : Aside (SW enc32 w0 blk off d (grow (wr.drewN nq) osq)) := SJ.out.grown nq osq
        clear l1 l2 hc SJ
        generalize grow (wr.drewN nq) osq = w2 at S2 ⊢
        clear nq osq
        go_wp2
        go_roundg (c - s)
        case measure => omega
        case rel =>
          exact ⟨s, c, rfl, by first | rfl | (congr 1; have := HE.out; omega), by omega, by omega, by omega, by omega, S2, ⟨HI.out.1, fun _ => by
            obtain ⟨h1, h2, h3⟩ := HX.out
            rw [show mid + m - 1 - c = q by omega, ← h1, ← h2]; exact hlt2⟩⟩
      · have hd2 : decide (cfO y x < 0) = false := decide_eq_false (by unfold cfO; omega)
        have hv2 : ¬ cfO y x < 0 := by unfold cfO; omega
        go_wp2_with fail
        go_quiet_grown (first | (go_at_call 19; refine Calls.grown_of (hc _ _)))
        have S2 : Aside (SW enc32 w0 blk off d (grow (wr.drewN nq) osq)) := SJ.out.grown nq osq
        clear l1 l2 hc SJ
        generalize grow (wr.drewN nq) osq = w2 at S2 ⊢
        clear nq osq
        go_wp2
        go_roundg (r - (c + 1))
        case measure => omega
        case rel =>
          exact ⟨c + 1, r, by first | rfl | (congr 1; have := HE.out; omega), rfl, by omega, by omega, by omega, by omega, S2, ⟨fun _ => by
            obtain ⟨h1, h2, h3⟩ := HX.out
            rw [Nat.add_sub_cancel, show mid + m - 1 - c = q by omega, ← h1, ← h2]; omega, HI.out.2⟩⟩
    · obtain rfl : s = r := by omega
      have hnlt : ¬ (s : Int) < (s : Int) := by omega
      obtain ⟨e, he⟩ : ∃ e, e + s = mid + m := ⟨mid + m - s, by omega⟩
      have hez : (mid : Int) + (m : Int) - (s : Int) = (e : Int) := by omega
      have has : a ≤ s := by omega
      have hsm0 : s ≤ m := by omega
      have hsmid : s ≤ mid := by omega
      have hme0 : m ≤ e := by omega
      have heb0 : e ≤ b := by omega
      have hmide : mid ≤ e := by omega
      have HP := split_ok (lo := a) (hi := m) HD.out.1 HD.out.2.1 HD.out.2.2.1 HD.out.2.2.2 HV.out.1 HV.out.2 he (by omega) (by omega) (by omega) (by omega) (by omega) (by omega) (by omega) (by omega) HI.out.1 HI.out.2
      obtain ⟨U1, hU1⟩ : ∃ x, x = U.take (s - a) := ⟨_, rfl⟩
      obtain ⟨U2, hU2⟩ : ∃ x, x = U.drop (s - a) := ⟨_, rfl⟩
      obtain ⟨V1, hV1⟩ : ∃ x, x = V.take (e - m) := ⟨_, rfl⟩
      obtain ⟨V2, hV2⟩ : ∃ x, x = V.drop (e - m) := ⟨_, rfl⟩
      rw [← hU1, ← hU2, ← hV1, ← hV2] at HP
      have hUU : U = U1 ++ U2 := by rw [hU1, hU2, List.take_append_drop]
      have hVV : V = V1 ++ V2 := by rw [hV1, hV2, List.take_append_drop]
      have lU1 : U1.length = s - a := by rw [hU1]; simp; have := HD.out; omega
      have lU2 : U2.length = m - s := by rw [hU2]; simp; have := HD.out; omega
      have lV1 : V1.length = e - m := by rw [hV1]; simp; have := HD.out; omega
      have lV2 : V2.length = b - e := by rw [hV2]; simp; have := HD.out; omega
      have LL : Aside (U1.length = s - a ∧ U2.length = m - s ∧ V1.length = e - m ∧ V2.length = b - e ∧ U = U1 ++ U2 ∧ V = V1 ++ V2 ∧ e + s = mid + m) := ⟨lU1, lU2, lV1, lV2, hUU, hVV, he⟩
      have PP : Aside ((∀ x ∈ U2, ∀ y ∈ V1, kOf y < kOf x) ∧ (∀ x ∈ U1, ∀ y ∈ V2, kOf x ≤ kOf y)) := HP
      have AA : Aside (Asc kOf (U1 ++ U2) ∧ Asc kOf (V1 ++ V2)) := by rw [← hUU, ← hVV]; exact HV.out
      have DD : Aside (d.toList = A ++ U1 ++ U2 ++ V1 ++ (V2 ++ Q)) := by show _ = _; rw [HD.out.1, hUU, hVV]; simp
      clear HI HP hU1 hU2 hV1 hV2 hUU hVV lU1 lU2 lV1 lV2 he HC mixed
      -- the two merges below, at whatever row
      have HC1 : Aside (∀ (T : Array Int) (wx : World), SW enc32 w0 blk off T wx → T.size = d.size → T.toList = A ++ U1 ++ V1 ++ (U2 ++ V2 ++ Q) → a < s → s < mid →
          Calls Tryd.prog 30 #[.slice (some ⟨blk, off, none⟩) d.size cap, .int .i64 a, .int .i64 s, .int .i64 mid, .func (.func 19) #[] #[]] wx fun e w' => e = .returned (.tuple #[]) ∧ ∃ T : Array Int, SW enc32 w0 blk off T w' ∧ T.size = d.size ∧ ∃ S, IsMerge kOf U1 V1 S ∧ T.toList = A ++ S ++ (U2 ++ V2 ++ Q)) := by
        intro T wx h1 h2 h3 h4 h5
        obtain ⟨l1, l2, l3, l4, l5, l6, l7⟩ := LL.out
        have := J1.out s h4 h5 blk off cap d0 T w0 wx A U1 V1 (U2 ++ V2 ++ Q) R (by omega) h1 h3 HD.out.2.1 (by omega) (by omega) (List.pairwise_append.1 AA.out.1).1 (List.pairwise_append.1 AA.out.2).1 (by omega)
        rw [h2] at this
        exact this
      have HC2 : Aside (∀ (T : Array Int) (wx : World) (X : List Int), SW enc32 w0 blk off T wx → T.size = d.size → IsMerge kOf U1 V1 X → T.toList = A ++ X ++ (U2 ++ V2 ++ Q) → mid < e → e < b →
          Calls Tryd.prog 30 #[.slice (some ⟨blk, off, none⟩) d.size cap, .int .i64 mid, .int .i64 e, .int .i64 b, .func (.func 19) #[] #[]] wx fun e w' => e = .returned (.tuple #[]) ∧ ∃ T : Array Int, SW enc32 w0 blk off T w' ∧ T.size = d.size ∧ ∃ S, IsMerge kOf U2 V2 S ∧ T.toList = A ++ X ++ (S ++ Q)) := by
        intro T wx X h1 h2 hX h3 h4 h5
        obtain ⟨l1, l2, l3, l4, l5, l6, l7⟩ := LL.out
        have lX := hX.1.length
        simp at lX
        have := J2.out e h4 h5 blk off cap d0 T w0 wx (A ++ X) U2 V2 Q R (by omega) h1 (by rw [h3]; simp) (by simp; have := HD.out.2.1; omega) (by omega) (by omega) (List.pairwise_append.1 AA.out.1).2.1 (List.pairwise_append.1 AA.out.2).2.1 (by omega)
        rw [h2] at this
        refine this.mono ?_
        rintro e w' ⟨rfl, T3, g1, g2, S3, g3, g4⟩
        exact ⟨rfl, T3, g1, g2, S3, g3, by rw [g4]; simp⟩
      have NL : Aside (¬ (a < s ∧ s < mid) → IsMerge kOf U1 V1 (U1 ++ V1)) := fun h => by
        obtain ⟨l1, l2, l3, l4, l5, l6, l7⟩ := LL.out
        by_cases h1 : a < s
        · have : V1 = [] := List.eq_nil_of_length_eq_zero (by omega)
          rw [this]; simpa using IsMerge.none_right (List.pairwise_append.1 AA.out.1).1
        · have : U1 = [] := List.eq_nil_of_length_eq_zero (by omega)
          rw [this]; exact IsMerge.none_left (List.pairwise_append.1 AA.out.2).1
      have NR : Aside (¬ (mid < e ∧ e < b) → IsMerge kOf U2 V2 (U2 ++ V2)) := fun h => by
        obtain ⟨l1, l2, l3, l4, l5, l6, l7⟩ := LL.out
        by_cases h1 : mid < e
        · have : V2 = [] := List.eq_nil_of_length_eq_zero (by omega)
          rw [this]; simpa using IsMerge.none_right (List.pairwise_append.1 AA.out.1).2.1
        · have : U2 = [] := List.eq_nil_of_length_eq_zero (by omega)
          rw [this]; exact IsMerge.none_left (List.pairwise_append.1 AA.out.2).2.1
      have FIN : Aside (∀ (X Y : List Int), IsMerge kOf U1 V1 X → IsMerge kOf U2 V2 Y → IsMerge kOf U V (X ++ Y)) := fun X Y h1 h2 => by
        obtain ⟨l1, l2, l3, l4, l5, l6, l7⟩ := LL.out
        rw [l5, l6]
        exact IsMerge.both AA.out.1 AA.out.2 h1 h2 PP.out.1 PP.out.2
      have w1 : (s < m ∧ m < e) ∨ (s < m ∧ ¬ m < e) ∨ ¬ s < m := by omega
      have w2 : (a < s ∧ s < mid) ∨ (a < s ∧ ¬ s < mid) ∨ ¬ a < s := by omega
      have w3 : (mid < e ∧ e < b) ∨ (mid < e ∧ ¬ e < b) ∨ ¬ mid < e := by omega
      have HR : Aside (s < m → m < e → Calls Tryd.prog 39 #[.slice (some ⟨blk, off, none⟩) d.size cap, .int .i64 s, .int .i64 m, .int .i64 e, .func (.func 19) #[] #[]] wr fun e w' => e = .returned (.tuple #[]) ∧ ∃ T : Array Int, SW enc32 w0 blk off T w' ∧ T.size = d.size ∧ T.toList = A ++ U1 ++ V1 ++ U2 ++ (V2 ++ Q)) := fun h1 h2 => by
        obtain ⟨l1, l2, l3, l4, l5, l6, l7⟩ := LL.out
        exact rot blk off cap s m e d0 d w0 wr _ (A ++ U1) U2 V1 (V2 ++ Q) R hs SJ.out DD.out (by simp; have := HD.out.2.1; omega) (by omega) (by omega) h1 h2 hsz
      clear AA PP
      rcases w1 with ⟨h1, h2⟩ | ⟨h1, h2⟩ | h1
      · have q1 : (s : Int) < (m : Int) := by omega
        have q2 : (m : Int) < (e : Int) := by omega
        clear DD
        rcases w2 with ⟨h3, h4⟩ | ⟨h3, h4⟩ | h3
        · have q3 : (a : Int) < (s : Int) := by omega
          have q4 : (s : Int) < (mid : Int) := by omega
          rcases w3 with ⟨h5, h6⟩ | ⟨h5, h6⟩ | h5
          · have q5 : (mid : Int) < (e : Int) := by omega
            have q6 : (e : Int) < (b : Int) := by omega
            go_wp2_with (first
              | (go_at_call 39; refine (HR.out h1 h2).mono ?_; rintro e1 w2 ⟨rfl, T1, S1', hT1, hl1'⟩; have S1 : Aside _ := S1'; have hl1 : Aside (T1.toList = A ++ U1 ++ V1 ++ (U2 ++ V2 ++ Q)) := by { show _ = _; rw [hl1']; simp }; clear S1' hl1' HR)
              | (go_at_call 30; refine (HC1.out T1 _ S1.out hT1 hl1.out (by omega) (by omega)).mono ?_; rintro e2 w3 ⟨rfl, T2, S2', hT2, X1, hX1', hl2'⟩; have S2 : Aside _ := S2'; have hl2 : Aside _ := hl2'; have hX1 : Aside _ := hX1'; clear S2' hl2' hX1' HC1)
              | (go_at_call 30; refine (HC2.out T2 _ X1 S2.out hT2 hX1.out hl2.out (by omega) (by omega)).mono ?_; rintro e3 w4 ⟨rfl, T3, S3', hT3, X2, hX2', hl3'⟩; have S3 : Aside _ := S3'; have hl3 : Aside _ := hl3'; have hX2 : Aside _ := hX2'; clear S3' hl3' hX2' HC2))
            go_end0
            exact ⟨rfl, T3, S3.out, hT3, X1 ++ X2, FIN.out X1 X2 hX1.out hX2.out, by rw [hl3.out]; simp⟩
          · have q5 : (mid : Int) < (e : Int) := by omega
            have q6 : ¬ (e : Int) < (b : Int) := by omega
            clear HC2
            go_wp2_with (first
              | (go_at_call 39; refine (HR.out h1 h2).mono ?_; rintro e1 w2 ⟨rfl, T1, S1', hT1, hl1'⟩; have S1 : Aside _ := S1'; have hl1 : Aside (T1.toList = A ++ U1 ++ V1 ++ (U2 ++ V2 ++ Q)) := by { show _ = _; rw [hl1']; simp }; clear S1' hl1' HR)
              | (go_at_call 30; refine (HC1.out T1 _ S1.out hT1 hl1.out (by omega) (by omega)).mono ?_; rintro e2 w3 ⟨rfl, T2, S2', hT2, X1, hX1', hl2'⟩; have S2 : Aside _ := S2'; have hl2 : Aside _ := hl2'; have hX1 : Aside _ := hX1'; clear S2' hl2' hX1' HC1))
            go_end0
            obtain ⟨T3, X2, hT3, S3, hl3, hX2⟩ : ∃ (T3 : Array Int) (X2 : List Int), T3.size = d.size ∧ Aside (SW enc32 w0 blk off T3 _) ∧ Aside (T3.toList = A ++ X1 ++ (X2 ++ Q)) ∧ Aside (IsMerge kOf U2 V2 X2) := ⟨T2, U2 ++ V2, hT2, S2, by show _ = _; rw [hl2.out], NR.out (by omega)⟩
            exact ⟨rfl, T3, S3.out, hT3, X1 ++ X2, FIN.out X1 X2 hX1.out hX2.out, by rw [hl3.out]; simp⟩
          · have q5 : ¬ (mid : Int) < (e : Int) := by omega
            clear HC2
            go_wp2_with (first
              | (go_at_call 39; refine (HR.out h1 h2).mono ?_; rintro e1 w2 ⟨rfl, T1, S1', hT1, hl1'⟩; have S1 : Aside _ := S1'; have hl1 : Aside (T1.toList = A ++ U1 ++ V1 ++ (U2 ++ V2 ++ Q)) := by { show _ = _; rw [hl1']; simp }; clear S1' hl1' HR)
              | (go_at_call 30; refine (HC1.out T1 _ S1.out hT1 hl1.out (by omega) (by omega)).mono ?_; rintro e2 w3 ⟨rfl, T2, S2', hT2, X1, hX1', hl2'⟩; have S2 : Aside _ := S2'; have hl2 : Aside _ := hl2'; have hX1 : Aside _ := hX1'; clear S2' hl2' hX1' HC1))
            go_end0
            obtain ⟨T3, X2, hT3, S3, hl3, hX2⟩ : ∃ (T3 : Array Int) (X2 : List Int), T3.size = d.size ∧ Aside (SW enc32 w0 blk off T3 _) ∧ Aside (T3.toList = A ++ X1 ++ (X2 ++ Q)) ∧ Aside (IsMerge kOf U2 V2 X2) := ⟨T2, U2 ++ V2, hT2, S2, by show _ = _; rw [hl2.out], NR.out (by omega)⟩
            exact ⟨rfl, T3, S3.out, hT3, X1 ++ X2, FIN.out X1 X2 hX1.out hX2.out, by rw [hl3.out]; simp⟩
        · have q3 : (a : Int) < (s : Int) := by omega
          have q4 : ¬ (s : Int) < (mid : Int) := by omega
          clear HC1
          rcases w3 with ⟨h5, h6⟩ | ⟨h5, h6⟩ | h5
          · have q5 : (mid : Int) < (e : Int) := by omega
            have q6 : (e : Int) < (b : Int) := by omega
            go_wp2_with (first
              | (go_at_call 39; refine (HR.out h1 h2).mono ?_; rintro e1 w2 ⟨rfl, T1, S1', hT1, hl1'⟩; have S1 : Aside _ := S1'; have hl1 : Aside (T1.toList = A ++ U1 ++ V1 ++ (U2 ++ V2 ++ Q)) := by { show _ = _; rw [hl1']; simp }; clear S1' hl1' HR; obtain ⟨T2, X1, hT2, S2, hl2, hX1⟩ : ∃ (T2 : Array Int) (X1 : List Int), T2.size = d.size ∧ Aside (SW enc32 w0 blk off T2 _) ∧ Aside (T2.toList = A ++ X1 ++ (U2 ++ V2 ++ Q)) ∧ Aside (IsMerge kOf U1 V1 X1) := ⟨T1, U1 ++ V1, hT1, S1, by show _ = _; rw [hl1.out]; simp, NL.out (by omega)⟩)
              | (go_at_call 30; refine (HC2.out T2 _ X1 S2.out hT2 hX1.out hl2.out (by omega) (by omega)).mono ?_; rintro e3 w4 ⟨rfl, T3, S3', hT3, X2, hX2', hl3'⟩; have S3 : Aside _ := S3'; have hl3 : Aside _ := hl3'; have hX2 : Aside _ := hX2'; clear S3' hl3' hX2' HC2))
            go_end0
            exact ⟨rfl, T3, S3.out, hT3, X1 ++ X2, FIN.out X1 X2 hX1.out hX2.out, by rw [hl3.out]; simp⟩
          · have q5 : (mid : Int) < (e : Int) := by omega
            have q6 : ¬ (e : Int) < (b : Int) := by omega
            clear HC2
            go_wp2_with (first
              | (go_at_call 39; refine (HR.out h1 h2).mono ?_; rintro e1 w2 ⟨rfl, T1, S1', hT1, hl1'⟩; have S1 : Aside _ := S1'; have hl1 : Aside (T1.toList = A ++ U1 ++ V1 ++ (U2 ++ V2 ++ Q)) := by { show _ = _; rw [hl1']; simp }; clear S1' hl1' HR; obtain ⟨T2, X1, hT2, S2, hl2, hX1⟩ : ∃ (T2 : Array Int) (X1 : List Int), T2.size = d.size ∧ Aside (SW enc32 w0 blk off T2 _) ∧ Aside (T2.toList = A ++ X1 ++ (U2 ++ V2 ++ Q)) ∧ Aside (IsMerge kOf U1 V1 X1) := ⟨T1, U1 ++ V1, hT1, S1, by show _ = _; rw [hl1.out]; simp, NL.out (by omega)⟩))
            go_end0
            obtain ⟨T3, X2, hT3, S3, hl3, hX2⟩ : ∃ (T3 : Array Int) (X2 : List Int), T3.size = d.size ∧ Aside (SW enc32 w0 blk off T3 _) ∧ Aside (T3.toList = A ++ X1 ++ (X2 ++ Q)) ∧ Aside (IsMerge kOf U2 V2 X2) := ⟨T2, U2 ++ V2, hT2, S2, by show _ = _; rw [hl2.out], NR.out (by omega)⟩
            exact ⟨rfl, T3, S3.out, hT3, X1 ++ X2, FIN.out X1 X2 hX1.out hX2.out, by rw [hl3.out]; simp⟩
          · have q5 : ¬ (mid : Int) < (e : Int) := by omega
            clear HC2
            go_wp2_with (first
              | (go_at_call 39; refine (HR.out h1 h2).mono ?_; rintro e1 w2 ⟨rfl, T1, S1', hT1, hl1'⟩; have S1 : Aside _ := S1'; have hl1 : Aside (T1.toList = A ++ U1 ++ V1 ++ (U2 ++ V2 ++ Q)) := by { show _ = _; rw [hl1']; simp }; clear S1' hl1' HR; obtain ⟨T2, X1, hT2, S2, hl2, hX1⟩ : ∃ (T2 : Array Int) (X1 : List Int), T2.size = d.size ∧ Aside (SW enc32 w0 blk off T2 _) ∧ Aside (T2.toList = A ++ X1 ++ (U2 ++ V2 ++ Q)) ∧ Aside (IsMerge kOf U1 V1 X1) := ⟨T1, U1 ++ V1, hT1, S1, by show _ = _; rw [hl1.out]; simp, NL.out (by omega)⟩))
            go_end0
            obtain ⟨T3, X2, hT3, S3, hl3, hX2⟩ : ∃ (T3 : Array Int) (X2 : List Int), T3.size = d.size ∧ Aside (SW enc32 w0 blk off T3 _) ∧ Aside (T3.toList = A ++ X1 ++ (X2 ++ Q)) ∧ Aside (IsMerge kOf U2 V2 X2) := ⟨T2, U2 ++ V2, hT2, S2, by show _ = _; rw [hl2.out], NR.out (by omega)⟩
            exact ⟨rfl, T3, S3.out, hT3, X1 ++ X2, FIN.out X1 X2 hX1.out hX2.out, by rw [hl3.out]; simp⟩
        · have q3 : ¬ (a : Int) < (s : Int) := by omega
          clear HC1
          rcases w3 with ⟨h5, h6⟩ | ⟨h5, h6⟩ | h5
          · have q5 : (mid : Int) < (e : Int) := by omega
            have q6 : (e : Int) < (b : Int) := by omega
            go_wp2_with (first
              | (go_at_call 39; refine (HR.out h1 h2).mono ?_; rintro e1 w2 ⟨rfl, T1, S1', hT1, hl1'⟩; have S1 : Aside _ := S1'; have hl1 : Aside (T1.toList = A ++ U1 ++ V1 ++ (U2 ++ V2 ++ Q)) := by { show _ = _; rw [hl1']; simp }; clear S1' hl1' HR; obtain ⟨T2, X1, hT2, S2, hl2, hX1⟩ : ∃ (T2 : Array Int) (X1 : List Int), T2.size = d.size ∧ Aside (SW enc32 w0 blk off T2 _) ∧ Aside (T2.toList = A ++ X1 ++ (U2 ++ V2 ++ Q)) ∧ Aside (IsMerge kOf U1 V1 X1) := ⟨T1, U1 ++ V1, hT1, S1, by show _ = _; rw [hl1.out]; simp, NL.out (by omega)⟩)
              | (go_at_call 30; refine (HC2.out T2 _ X1 S2.out hT2 hX1.out hl2.out (by omega) (by omega)).mono ?_; rintro e3 w4 ⟨rfl, T3, S3', hT3, X2, hX2', hl3'⟩; have S3 : Aside _ := S3'; have hl3 : Aside _ := hl3'; have hX2 : Aside _ := hX2'; clear S3' hl3' hX2' HC2))
            go_end0
            exact ⟨rfl, T3, S3.out, hT3, X1 ++ X2, FIN.out X1 X2 hX1.out hX2.out, by rw [hl3.out]; simp⟩
          · have q5 : (mid : Int) < (e : Int) := by omega
            have q6 : ¬ (e : Int) < (b : Int) := by omega
            clear HC2
            go_wp2_with (first
              | (go_at_call 39; refine (HR.out h1 h2).mono ?_; rintro e1 w2 ⟨rfl, T1, S1', hT1, hl1'⟩; have S1 : Aside _ := S1'; have hl1 : Aside (T1.toList = A ++ U1 ++ V1 ++ (U2 ++ V2 ++ Q)) := by { show _ = _; rw [hl1']; simp }; clear S1' hl1' HR; obtain ⟨T2, X1, hT2, S2, hl2, hX1⟩ : ∃ (T2 : Array Int) (X1 : List Int), T2.size = d.size ∧ Aside (SW enc32 w0 blk off T2 _) ∧ Aside (T2.toList = A ++ X1 ++ (U2 ++ V2 ++ Q)) ∧ Aside (IsMerge kOf U1 V1 X1) := ⟨T1, U1 ++ V1, hT1, S1, by show _ = _; rw [hl1.out]; simp, NL.out (by omega)⟩))
            go_end0
            obtain ⟨T3, X2, hT3, S3, hl3, hX2⟩ : ∃ (T3 : Array Int) (X2 : List Int), T3.size = d.size ∧ Aside (SW enc32 w0 blk off T3 _) ∧ Aside (T3.toList = A ++ X1 ++ (X2 ++ Q)) ∧ Aside (IsMerge kOf U2 V2 X2) := ⟨T2, U2 ++ V2, hT2, S2, by show _ = _; rw [hl2.out], NR.out (by omega)⟩
            exact ⟨rfl, T3, S3.out, hT3, X1 ++ X2, FIN.out X1 X2 hX1.out hX2.out, by rw [hl3.out]; simp⟩
          · have q5 : ¬ (mid : Int) < (e : Int) := by omega
            clear HC2
            go_wp2_with (first
              | (go_at_call 39; refine (HR.out h1 h2).mono ?_; rintro e1 w2 ⟨rfl, T1, S1', hT1, hl1'⟩; have S1 : Aside _ := S1'; have hl1 : Aside (T1.toList = A ++ U1 ++ V1 ++ (U2 ++ V2 ++ Q)) := by { show _ = _; rw [hl1']; simp }; clear S1' hl1' HR; obtain ⟨T2, X1, hT2, S2, hl2, hX1⟩ : ∃ (T2 : Array Int) (X1 : List Int), T2.size = d.size ∧ Aside (SW enc32 w0 blk off T2 _) ∧ Aside (T2.toList = A ++ X1 ++ (U2 ++ V2 ++ Q)) ∧ Aside (IsMerge kOf U1 V1 X1) := ⟨T1, U1 ++ V1, hT1, S1, by show _ = _; rw [hl1.out]; simp, NL.out (by omega)⟩))
            go_end0
            obtain ⟨T3, X2, hT3, S3, hl3, hX2⟩ : ∃ (T3 : Array Int) (X2 : List Int), T3.size = d.size ∧ Aside (SW enc32 w0 blk off T3 _) ∧ Aside (T3.toList = A ++ X1 ++ (X2 ++ Q)) ∧ Aside (IsMerge kOf U2 V2 X2) := ⟨T2, U2 ++ V2, hT2, S2, by show _ = _; rw [hl2.out], NR.out (by omega)⟩
            exact ⟨rfl, T3, S3.out, hT3, X1 ++ X2, FIN.out X1 X2 hX1.out hX2.out, by rw [hl3.out]; simp⟩
      · have q1 : (s : Int) < (m : Int) := by omega
        have q2 : ¬ (m : Int) < (e : Int) := by omega
        obtain ⟨T1, hT1, S1, hl1⟩ : ∃ T1 : Array Int, T1.size = d.size ∧ Aside (SW enc32 w0 blk off T1 wr) ∧ Aside (T1.toList = A ++ U1 ++ V1 ++ (U2 ++ V2 ++ Q)) := ⟨d, rfl, SJ, by
          obtain ⟨l1, l2, l3, l4, l5, l6, l7⟩ := LL.out
          have e1 : V1 = [] := List.eq_nil_of_length_eq_zero (by omega)
          show _ = _
          rw [DD.out, e1]; simp⟩
        clear HR
        clear DD SJ
        rcases w2 with ⟨h3, h4⟩ | ⟨h3, h4⟩ | h3
        · have q3 : (a : Int) < (s : Int) := by omega
          have q4 : (s : Int) < (mid : Int) := by omega
          rcases w3 with ⟨h5, h6⟩ | ⟨h5, h6⟩ | h5
          · have q5 : (mid : Int) < (e : Int) := by omega
            have q6 : (e : Int) < (b : Int) := by omega
            go_wp2_with (first
              | (go_at_call 30; refine (HC1.out T1 _ S1.out hT1 hl1.out (by omega) (by omega)).mono ?_; rintro e2 w3 ⟨rfl, T2, S2', hT2, X1, hX1', hl2'⟩; have S2 : Aside _ := S2'; have hl2 : Aside _ := hl2'; have hX1 : Aside _ := hX1'; clear S2' hl2' hX1' HC1)
              | (go_at_call 30; refine (HC2.out T2 _ X1 S2.out hT2 hX1.out hl2.out (by omega) (by omega)).mono ?_; rintro e3 w4 ⟨rfl, T3, S3', hT3, X2, hX2', hl3'⟩; have S3 : Aside _ := S3'; have hl3 : Aside _ := hl3'; have hX2 : Aside _ := hX2'; clear S3' hl3' hX2' HC2))
            go_end0
            exact ⟨rfl, T3, S3.out, hT3, X1 ++ X2, FIN.out X1 X2 hX1.out hX2.out, by rw [hl3.out]; simp⟩
          · have q5 : (mid : Int) < (e : Int) := by omega
            have q6 : ¬ (e : Int) < (b : Int) := by omega
            clear HC2
            go_wp2_with (first
              | (go_at_call 30; refine (HC1.out T1 _ S1.out hT1 hl1.out (by omega) (by omega)).mono ?_; rintro e2 w3 ⟨rfl, T2, S2', hT2, X1, hX1', hl2'⟩; have S2 : Aside _ := S2'; have hl2 : Aside _ := hl2'; have hX1 : Aside _ := hX1'; clear S2' hl2' hX1' HC1))
            go_end0
            obtain ⟨T3, X2, hT3, S3, hl3, hX2⟩ : ∃ (T3 : Array Int) (X2 : List Int), T3.size = d.size ∧ Aside (SW enc32 w0 blk off T3 _) ∧ Aside (T3.toList = A ++ X1 ++ (X2 ++ Q)) ∧ Aside (IsMerge kOf U2 V2 X2) := ⟨T2, U2 ++ V2, hT2, S2, by show _ = _; rw [hl2.out], NR.out (by omega)⟩
            exact ⟨rfl, T3, S3.out, hT3, X1 ++ X2, FIN.out X1 X2 hX1.out hX2.out, by rw [hl3.out]; simp⟩
          · have q5 : ¬ (mid : Int) < (e : Int) := by omega
            clear HC2
            go_wp2_with (first
              | (go_at_call 30; refine (HC1.out T1 _ S1.out hT1 hl1.out (by omega) (by omega)).mono ?_; rintro e2 w3 ⟨rfl, T2, S2', hT2, X1, hX1', hl2'⟩; have S2 : Aside _ := S2'; have hl2 : Aside _ := hl2'; have hX1 : Aside _ := hX1'; clear S2' hl2' hX1' HC1))
            go_end0
            obtain ⟨T3, X2, hT3, S3, hl3, hX2⟩ : ∃ (T3 : Array Int) (X2 : List Int), T3.size = d.size ∧ Aside (SW enc32 w0 blk off T3 _) ∧ Aside (T3.toList = A ++ X1 ++ (X2 ++ Q)) ∧ Aside (IsMerge kOf U2 V2 X2) := ⟨T2, U2 ++ V2, hT2, S2, by show _ = _; rw [hl2.out], NR.out (by omega)⟩
            exact ⟨rfl, T3, S3.out, hT3, X1 ++ X2, FIN.out X1 X2 hX1.out hX2.out, by rw [hl3.out]; simp⟩
        · have q3 : (a : Int) < (s : Int) := by omega
          have q4 : ¬ (s : Int) < (mid : Int) := by omega
          obtain ⟨T2, X1, hT2, S2, hl2, hX1⟩ : ∃ (T2 : Array Int) (X1 : List Int), T2.size = d.size ∧ Aside (SW enc32 w0 blk off T2 wr) ∧ Aside (T2.toList = A ++ X1 ++ (U2 ++ V2 ++ Q)) ∧ Aside (IsMerge kOf U1 V1 X1) := ⟨T1, U1 ++ V1, hT1, S1, by show _ = _; rw [hl1.out]; simp, NL.out (by omega)⟩
          clear HC1
          rcases w3 with ⟨h5, h6⟩ | ⟨h5, h6⟩ | h5
          · have q5 : (mid : Int) < (e : Int) := by omega
            have q6 : (e : Int) < (b : Int) := by omega
            go_wp2_with (first
              | (go_at_call 30; refine (HC2.out T2 _ X1 S2.out hT2 hX1.out hl2.out (by omega) (by omega)).mono ?_; rintro e3 w4 ⟨rfl, T3, S3', hT3, X2, hX2', hl3'⟩; have S3 : Aside _ := S3'; have hl3 : Aside _ := hl3'; have hX2 : Aside _ := hX2'; clear S3' hl3' hX2' HC2))
            go_end0
            exact ⟨rfl, T3, S3.out, hT3, X1 ++ X2, FIN.out X1 X2 hX1.out hX2.out, by rw [hl3.out]; simp⟩
          · have q5 : (mid : Int) < (e : Int) := by omega
            have q6 : ¬ (e : Int) < (b : Int) := by omega
            clear HC2
            go_wp2
            go_end0
            obtain ⟨T3, X2, hT3, S3, hl3, hX2⟩ : ∃ (T3 : Array Int) (X2 : List Int), T3.size = d.size ∧ Aside (SW enc32 w0 blk off T3 _) ∧ Aside (T3.toList = A ++ X1 ++ (X2 ++ Q)) ∧ Aside (IsMerge kOf U2 V2 X2) := ⟨T2, U2 ++ V2, hT2, S2, by show _ = _; rw [hl2.out], NR.out (by omega)⟩
            exact ⟨rfl, T3, S3.out, hT3, X1 ++ X2, FIN.out X1 X2 hX1.out hX2.out, by rw [hl3.out]; simp⟩
          · have q5 : ¬ (mid : Int) < (e : Int) := by omega
            clear HC2
            go_wp2
            go_end0
            obtain ⟨T3, X2, hT3, S3, hl3, hX2⟩ : ∃ (T3 : Array Int) (X2 : List Int), T3.size = d.size ∧ Aside (SW enc32 w0 blk off T3 _) ∧ Aside (T3.toList = A ++ X1 ++ (X2 ++ Q)) ∧ Aside (IsMerge kOf U2 V2 X2) := ⟨T2, U2 ++ V2, hT2, S2, by show _ = _; rw [hl2.out], NR.out (by omega)⟩
            exact ⟨rfl, T3, S3.out, hT3, X1 ++ X2, FIN.out X1 X2 hX1.out hX2.out, by rw [hl3.out]; simp⟩
        · have q3 : ¬ (a : Int) < (s : Int) := by omega
          obtain ⟨T2, X1, hT2, S2, hl2, hX1⟩ : ∃ (T2 : Array Int) (X1 : List Int), T2.size = d.size ∧ Aside (SW enc32 w0 blk off T2 wr) ∧ Aside (T2.toList = A ++ X1 ++ (U2 ++ V2 ++ Q)) ∧ Aside (IsMerge kOf U1 V1 X1) := ⟨T1, U1 ++ V1, hT1, S1, by show _ = _; rw [hl1.out]; simp, NL.out (by omega)⟩
          clear HC1
          rcases w3 with ⟨h5, h6⟩ | ⟨h5, h6⟩ | h5
          · have q5 : (mid : Int) < (e : Int) := by omega
            have q6 : (e : Int) < (b : Int) := by omega
            go_wp2_with (first
              | (go_at_call 30; refine (HC2.out T2 _ X1 S2.out hT2 hX1.out hl2.out (by omega) (by omega)).mono ?_; rintro e3 w4 ⟨rfl, T3, S3', hT3, X2, hX2', hl3'⟩; have S3 : Aside _ := S3'; have hl3 : Aside _ := hl3'; have hX2 : Aside _ := hX2'; clear S3' hl3' hX2' HC2))
            go_end0
            exact ⟨rfl, T3, S3.out, hT3, X1 ++ X2, FIN.out X1 X2 hX1.out hX2.out, by rw [hl3.out]; simp⟩
          · have q5 : (mid : Int) < (e : Int) := by omega
            have q6 : ¬ (e : Int) < (b : Int) := by omega
            clear HC2
            go_wp2
            go_end0
            obtain ⟨T3, X2, hT3, S3, hl3, hX2⟩ : ∃ (T3 : Array Int) (X2 : List Int), T3.size = d.size ∧ Aside (SW enc32 w0 blk off T3 _) ∧ Aside (T3.toList = A ++ X1 ++ (X2 ++ Q)) ∧ Aside (IsMerge kOf U2 V2 X2) := ⟨T2, U2 ++ V2, hT2, S2, by show _ = _; rw [hl2.out], NR.out (by omega)⟩
            exact ⟨rfl, T3, S3.out, hT3, X1 ++ X2, FIN.out X1 X2 hX1.out hX2.out, by rw [hl3.out]; simp⟩
          · have q5 : ¬ (mid : Int) < (e : Int) := by omega
            clear HC2
            go_wp2
            go_end0
            obtain ⟨T3, X2, hT3, S3, hl3, hX2⟩ : ∃ (T3 : Array Int) (X2 : List Int), T3.size = d.size ∧ Aside (SW enc32 w0 blk off T3 _) ∧ Aside (T3.toList = A ++ X1 ++ (X2 ++ Q)) ∧ Aside (IsMerge kOf U2 V2 X2) := ⟨T2, U2 ++ V2, hT2, S2, by show _ = _; rw [hl2.out], NR.out (by omega)⟩
            exact ⟨rfl, T3, S3.out, hT3, X1 ++ X2, FIN.out X1 X2 hX1.out hX2.out, by rw [hl3.out]; simp⟩
      · have q1 : ¬ (s : Int) < (m : Int) := by omega
        obtain ⟨T1, hT1, S1, hl1⟩ : ∃ T1 : Array Int, T1.size = d.size ∧ Aside (SW enc32 w0 blk off T1 wr) ∧ Aside (T1.toList = A ++ U1 ++ V1 ++ (U2 ++ V2 ++ Q)) := ⟨d, rfl, SJ, by
          obtain ⟨l1, l2, l3, l4, l5, l6, l7⟩ := LL.out
          have e1 : U2 = [] := List.eq_nil_of_length_eq_zero (by omega)
          show _ = _
          rw [DD.out, e1]; simp⟩
        clear HR
        clear DD SJ
        rcases w2 with ⟨h3, h4⟩ | ⟨h3, h4⟩ | h3
        · have q3 : (a : Int) < (s : Int) := by omega
          have q4 : (s : Int) < (mid : Int) := by omega
          rcases w3 with ⟨h5, h6⟩ | ⟨h5, h6⟩ | h5
          · have q5 : (mid : Int) < (e : Int) := by omega
            have q6 : (e : Int) < (b : Int) := by omega
            go_wp2_with (first
              | (go_at_call 30; refine (HC1.out T1 _ S1.out hT1 hl1.out (by omega) (by omega)).mono ?_; rintro e2 w3 ⟨rfl, T2, S2', hT2, X1, hX1', hl2'⟩; have S2 : Aside _ := S2'; have hl2 : Aside _ := hl2'; have hX1 : Aside _ := hX1'; clear S2' hl2' hX1' HC1)
              | (go_at_call 30; refine (HC2.out T2 _ X1 S2.out hT2 hX1.out hl2.out (by omega) (by omega)).mono ?_; rintro e3 w4 ⟨rfl, T3, S3', hT3, X2, hX2', hl3'⟩; have S3 : Aside _ := S3'; have hl3 : Aside _ := hl3'; have hX2 : Aside _ := hX2'; clear S3' hl3' hX2' HC2))
            go_end0
            exact ⟨rfl, T3, S3.out, hT3, X1 ++ X2, FIN.out X1 X2 hX1.out hX2.out, by rw [hl3.out]; simp⟩
          · have q5 : (mid : Int) < (e : Int) := by omega
            have q6 : ¬ (e : Int) < (b : Int) := by omega
            clear HC2
            go_wp2_with (first
              | (go_at_call 30; refine (HC1.out T1 _ S1.out hT1 hl1.out (by omega) (by omega)).mono ?_; rintro e2 w3 ⟨rfl, T2, S2', hT2, X1, hX1', hl2'⟩; have S2 : Aside _ := S2'; have hl2 : Aside _ := hl2'; have hX1 : Aside _ := hX1'; clear S2' hl2' hX1' HC1))
            go_end0
            obtain ⟨T3, X2, hT3, S3, hl3, hX2⟩ : ∃ (T3 : Array Int) (X2 : List Int), T3.size = d.size ∧ Aside (SW enc32 w0 blk off T3 _) ∧ Aside (T3.toList = A ++ X1 ++ (X2 ++ Q)) ∧ Aside (IsMerge kOf U2 V2 X2) := ⟨T2, U2 ++ V2, hT2, S2, by show _ = _; rw [hl2.out], NR.out (by omega)⟩
            exact ⟨rfl, T3, S3.out, hT3, X1 ++ X2, FIN.out X1 X2 hX1.out hX2.out, by rw [hl3.out]; simp⟩
          · have q5 : ¬ (mid : Int) < (e : Int) := by omega
            clear HC2
            go_wp2_with (first
              | (go_at_call 30; refine (HC1.out T1 _ S1.out hT1 hl1.out (by omega) (by omega)).mono ?_; rintro e2 w3 ⟨rfl, T2, S2', hT2, X1, hX1', hl2'⟩; have S2 : Aside _ := S2'; have hl2 : Aside _ := hl2'; have hX1 : Aside _ := hX1'; clear S2' hl2' hX1' HC1))
            go_end0
            obtain ⟨T3, X2, hT3, S3, hl3, hX2⟩ : ∃ (T3 : Array Int) (X2 : List Int), T3.size = d.size ∧ Aside (SW enc32 w0 blk off T3 _) ∧ Aside (T3.toList = A ++ X1 ++ (X2 ++ Q)) ∧ Aside (IsMerge kOf U2 V2 X2) := ⟨T2, U2 ++ V2, hT2, S2, by show _ = _; rw [hl2.out], NR.out (by omega)⟩
            exact ⟨rfl, T3, S3.out, hT3, X1 ++ X2, FIN.out X1 X2 hX1.out hX2.out, by rw [hl3.out]; simp⟩
        · have q3 : (a : Int) < (s : Int) := by omega
          have q4 : ¬ (s : Int) < (mid : Int) := by omega
          obtain ⟨T2, X1, hT2, S2, hl2, hX1⟩ : ∃ (T2 : Array Int) (X1 : List Int), T2.size = d.size ∧ Aside (SW enc32 w0 blk off T2 wr) ∧ Aside (T2.toList = A ++ X1 ++ (U2 ++ V2 ++ Q)) ∧ Aside (IsMerge kOf U1 V1 X1) := ⟨T1, U1 ++ V1, hT1, S1, by show _ = _; rw [hl1.out]; simp, NL.out (by omega)⟩
          clear HC1
          rcases w3 with ⟨h5, h6⟩ | ⟨h5, h6⟩ | h5
          · have q5 : (mid : Int) < (e : Int) := by omega
            have q6 : (e : Int) < (b : Int) := by omega
            go_wp2_with (first
              | (go_at_call 30; refine (HC2.out T2 _ X1 S2.out hT2 hX1.out hl2.out (by omega) (by omega)).mono ?_; rintro e3 w4 ⟨rfl, T3, S3', hT3, X2, hX2', hl3'⟩; have S3 : Aside _ := S3'; have hl3 : Aside _ := hl3'; have hX2 : Aside _ := hX2'; clear S3' hl3' hX2' HC2))
            go_end0
            exact ⟨rfl, T3, S3.out, hT3, X1 ++ X2, FIN.out X1 X2 hX1.out hX2.out, by rw [hl3.out]; simp⟩
          · have q5 : (mid : Int) < (e : Int) := by omega
            have q6 : ¬ (e : Int) < (b : Int) := by omega
            clear HC2
            go_wp2
            go_end0
            obtain ⟨T3, X2, hT3, S3, hl3, hX2⟩ : ∃ (T3 : Array Int) (X2 : List Int), T3.size = d.size ∧ Aside (SW enc32 w0 blk off T3 _) ∧ Aside (T3.toList = A ++ X1 ++ (X2 ++ Q)) ∧ Aside (IsMerge kOf U2 V2 X2) := ⟨T2, U2 ++ V2, hT2, S2, by show _ = _; rw [hl2.out], NR.out (by omega)⟩
            exact ⟨rfl, T3, S3.out, hT3, X1 ++ X2, FIN.out X1 X2 hX1.out hX2.out, by rw [hl3.out]; simp⟩
          · have q5 : ¬ (mid : Int) < (e : Int) := by omega
            clear HC2
            go_wp2
            go_end0
            obtain ⟨T3, X2, hT3, S3, hl3, hX2⟩ : ∃ (T3 : Array Int) (X2 : List Int), T3.size = d.size ∧ Aside (SW enc32 w0 blk off T3 _) ∧ Aside (T3.toList = A ++ X1 ++ (X2 ++ Q)) ∧ Aside (IsMerge kOf U2 V2 X2) := ⟨T2, U2 ++ V2, hT2, S2, by show _ = _; rw [hl2.out], NR.out (by omega)⟩
            exact ⟨rfl, T3, S3.out, hT3, X1 ++ X2, FIN.out X1 X2 hX1.out hX2.out, by rw [hl3.out]; simp⟩
        · have q3 : ¬ (a : Int) < (s : Int) := by omega
          obtain ⟨T2, X1, hT2, S2, hl2, hX1⟩ : ∃ (T2 : Array Int) (X1 : List Int), T2.size = d.size ∧ Aside (SW enc32 w0 blk off T2 wr) ∧ Aside (T2.toList = A ++ X1 ++ (U2 ++ V2 ++ Q)) ∧ Aside (IsMerge kOf U1 V1 X1) := ⟨T1, U1 ++ V1, hT1, S1, by show _ = _; rw [hl1.out]; simp, NL.out (by omega)⟩
          clear HC1
          rcases w3 with ⟨h5, h6⟩ | ⟨h5, h6⟩ | h5
          · have q5 : (mid : Int) < (e : Int) := by omega
            have q6 : (e : Int) < (b : Int) := by omega
            go_wp2_with (first
              | (go_at_call 30; refine (HC2.out T2 _ X1 S2.out hT2 hX1.out hl2.out (by omega) (by omega)).mono ?_; rintro e3 w4 ⟨rfl, T3, S3', hT3, X2, hX2', hl3'⟩; have S3 : Aside _ := S3'; have hl3 : Aside _ := hl3'; have hX2 : Aside _ := hX2'; clear S3' hl3' hX2' HC2))
            go_end0
            exact ⟨rfl, T3, S3.out, hT3, X1 ++ X2, FIN.out X1 X2 hX1.out hX2.out, by rw [hl3.out]; simp⟩
          · have q5 : (mid : Int) < (e : Int) := by omega
            have q6 : ¬ (e : Int) < (b : Int) := by omega
            clear HC2
            go_wp2
            go_end0
            obtain ⟨T3, X2, hT3, S3, hl3, hX2⟩ : ∃ (T3 : Array Int) (X2 : List Int), T3.size = d.size ∧ Aside (SW enc32 w0 blk off T3 _) ∧ Aside (T3.toList = A ++ X1 ++ (X2 ++ Q)) ∧ Aside (IsMerge kOf U2 V2 X2) := ⟨T2, U2 ++ V2, hT2, S2, by show _ = _; rw [hl2.out], NR.out (by omega)⟩
            exact ⟨rfl, T3, S3.out, hT3, X1 ++ X2, FIN.out X1 X2 hX1.out hX2.out, by rw [hl3.out]; simp⟩
          · have q5 : ¬ (mid : Int) < (e : Int) := by omega
            clear HC2
            go_wp2
            go_end0
            obtain ⟨T3, X2, hT3, S3, hl3, hX2⟩ : ∃ (T3 : Array Int) (X2 : List Int), T3.size = d.size ∧ Aside (SW enc32 w0 blk off T3 _) ∧ Aside (T3.toList = A ++ X1 ++ (X2 ++ Q)) ∧ Aside (IsMerge kOf U2 V2 X2) := ⟨T2, U2 ++ V2, hT2, S2, by show _ = _; rw [hl2.out], NR.out (by omega)⟩
            exact ⟨rfl, T3, S3.out, hT3, X1 ++ X2, FIN.out X1 X2 hX1.out hX2.out, by rw [hl3.out]; simp⟩
end Go.Proofs.YtkadmnabhoijdaaDoor.Look
