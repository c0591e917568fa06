/- read.Decode, both ways; read.Text. -/
import Derived.Test.YtemhfcgkfdklhaaGreatDoorDec2
set_option linter.all false
namespace Go.Proofs.YtemhfcgkfdklhaaGreatDoor.Look
open Go Go.RowKit Go.Shelf Go.Proofs Go.Proofs.YtemhfcgkfdklhaaGreatDoor.Rd

theorem cDecode (w : World) (hT : Tabs w) (a : Option Addr) (cp : Nat) (l : List Int) (g0 g1 : Int) (hrow : RowB w a l) (hcp : l.length ≤ cp) (hcN : cp ≤ 9223372036854775807) (hn2 : l.length ≤ 2000000) (hlr : ∀ x ∈ l, 0 ≤ x ∧ x ≤ 255) :
    Calls Tryz.prog 17 #[.slice a l.length cp, .agg #[.int .i64 g0, .int .i64 g1]] w fun e w' => DecOk w w' (decodeV markV T0 l g0 g1) e := by
  cases hm : mayV g0 g1 with
  | true =>
    have e : decodeV markV T0 l g0 g1 = endV (run markV T0 l ⟨0, g0, g1, [], [], 0⟩) := by unfold decodeV; rw [if_pos hm]
    rw [e]
    exact cDecodeYes w hT a cp l g0 g1 hrow hcp hcN hn2 hlr hm
  | false =>
    have e : decodeV markV T0 l g0 g1 = .bad 1 0 := by unfold decodeV; rw [if_neg (by rw [hm]; decide)]
    rw [e]
    exact cDecodeNo w a l.length cp g0 g1 hm
theorem two (w : World) (x y u v : Int) : Cells2 ((w.alloc (.cells #[.int .i64 x, .int .i64 y] 53)).alloc (.cells #[.int .i64 u, .int .i64 v] 26)) w.heap.size x y ∧
    Cells2 ((w.alloc (.cells #[.int .i64 x, .int .i64 y] 53)).alloc (.cells #[.int .i64 u, .int .i64 v] 26)) (w.heap.size + 1) u v ∧
    Below w.heap.size w ((w.alloc (.cells #[.int .i64 x, .int .i64 y] 53)).alloc (.cells #[.int .i64 u, .int .i64 v] 26)) := by
  have hn0 : ∀ (u : World) (o : Obj), (u.alloc o).heap[u.heap.size]? = some o := fun u o => (MapKept.heap_alloc u o).1
  have ho0 : ∀ (u : World) (o : Obj) (k : Nat), k < u.heap.size → (u.alloc o).heap[k]? = u.heap[k]? := fun u o k hk => (World.grownBy_alloc u o none).block k hk (by simp)
  have k0 := hn0 w (.cells #[.int .i64 x, .int .i64 y] 53)
  have k1 := hn0 (w.alloc (.cells #[.int .i64 x, .int .i64 y] 53)) (.cells #[.int .i64 u, .int .i64 v] 26)
  rw [World.size_alloc] at k1
  exact ⟨cells2_of _ ((ho0 _ _ _ (by simp)).trans k0), cells2_of _ k1, ((Below.refl _ w).alloc (Nat.le_refl _) _).alloc (by simp) _⟩
def TextOk (w w' : World) : Step → Ending → Prop
  | .ok s, e => ∃ v, e = .returned (.tuple #[v, .agg #[.int .i64 0, .int .i64 0]]) ∧ OwnR w' w.heap.size v s.out ∧ Below w.heap.size w w'
  | .bad c p, e => e = .returned (.tuple #[.slice none 0 0, .agg #[.int .i64 c, .int .i64 p]]) ∧ Below w.heap.size w w'
/-- What a fault's number is not. -/
theorem decodeV_bad {mk : Int → Bool} {T : Tab} {l : List Int} {g0 g1 e p : Int} (h : decodeV mk T l g0 g1 = .bad e p) : e ≠ 0 := by
  have key : ∀ n s, l.length - s.pos = n → ∀ e p, run mk T l s = .bad e p → e ≠ 0 := by
    intro n
    induction n using Nat.strongRecOn with
    | _ n ih =>
      intro s hn e p hr
      by_cases hl : s.pos < l.length
      · cases hx : nextV mk T l s with
        | bad e' p' =>
          rw [run_bad hl hx] at hr
          injection hr with h1 h2
          have := nextV_bad hx
          omega
        | ok s1 =>
          rw [run_step hl hx] at hr
          have := nextV_pos hl hx
          exact ih (l.length - s1.pos) (by omega) s1 rfl e p hr
      · rw [run_end (by omega)] at hr
        cases hr
  unfold decodeV at h
  split at h
  · unfold endV at h
    split at h
    · split at h
      · injection h with h1 h2; omega
      · cases h
    · rename_i hr
      injection h with h1 h2
      rw [← h1]
      exact key _ _ rfl _ _ hr
  · injection h with h1 h2; omega

set_option maxHeartbeats 8000000 in
set_option maxRecDepth 100000 in
theorem cText (w : World) (hT : Tabs w) (a : Option Addr) (cp : Nat) (l : List Int) (hrow : RowB w a l) (hcp : l.length ≤ cp) (hcN : cp ≤ 9223372036854775807) (hn2 : l.length ≤ 2000000) (hlr : ∀ x ∈ l, 0 ≤ x ∧ x ≤ 255) :
    Calls Tryz.prog 7 #[.slice a l.length cp] w fun e w' => TextOk w w' (textV markV T0 l) e := by
  have HDec : Hid (∀ X, Below w.heap.size w X → Calls Tryz.prog 17 #[.slice a l.length cp, .agg #[.int .i64 1, .int .i64 2]] X fun e w' => DecOk X w' (decodeV markV T0 l 1 2) e) := fun X hX => cDecode X (hT.below hX) a cp l 1 2 (hrow.below hX) hcp hcN hn2 hlr
  obtain ⟨W0, hW0⟩ : ∃ W0, W0 = w.alloc (.cells #[.int .i64 0, .int .i64 0] 26) := ⟨_, rfl⟩
  have hb0 : Below w.heap.size w W0 := by rw [hW0]; exact (Below.refl _ w).alloc (Nat.le_refl _) _
  have hz0 : Cells2 W0 w.heap.size 0 0 := cells2_of 26 (by rw [hW0]; exact (MapKept.heap_alloc w _).1)
  have HD : Hid (Calls Tryz.prog 18 #[] W0 fun e w' => e = .returned (.agg #[.int .i64 1, .int .i64 2]) ∧ Aside (Below w.heap.size w w' ∧ Cells2 w' w.heap.size 0 0)) := (cDefault W0).mono fun e w' h => ⟨h.1, hb0.trans (h.2.mono hb0.size), hz0.below h.2 hz0.lt⟩
  have HD2 : Hid (∀ X, Calls Tryz.prog 18 #[] X fun e w' => e = .returned (.agg #[.int .i64 1, .int .i64 2]) ∧ Below X.heap.size X w') := cDefault
  rw [hW0] at HD
  clear hW0 hb0 hz0 hT hrow hlr
  have hdb := @decodeV_bad markV T0 l 1 2
  unfold textV
  generalize decodeV markV T0 l 1 2 = D at HDec hdb ⊢
  obtain ⟨N, hN⟩ : ∃ N, N = l.length := ⟨_, rfl⟩
  rw [← hN] at HDec hcp hn2 ⊢
  clear hN
  cases D with
  | bad ec ep =>
    have hec := hdb rfl
    have hecb : (ec == 0) = false := by simpa using hec
    clear hdb HD2
    go_enter Tryz.func7, Tryz.ntmps7
    go_wp2_with (first
      | (go_at_call 18; refine HD.out.mono ?_; rintro e w1 ⟨rfl, hA⟩; clear HD)
      | (go_at_call 17; refine (HDec.out _ hA.out.1).mono ?_; rintro e w2 ⟨rfl, hB⟩; have hB2 : Aside (Below w.heap.size w w2 ∧ Cells2 w2 w.heap.size 0 0) := ⟨hA.out.1.trans (hB.mono hA.out.1.size), hA.out.2.below hB hA.out.2.lt⟩; clear HDec hA hB))
    obtain ⟨F, hF⟩ : ∃ Z, Z = ((w2.alloc (.cells #[.int .i64 0, .int .i64 0] 53)).alloc (.cells #[.int .i64 ec, .int .i64 ep] 26)) := ⟨_, rfl⟩
    obtain ⟨j5, j6, jb⟩ := two w2 0 0 ec ep
    rw [← hF] at j5 j6 jb ⊢
    have hB3 : Aside (Below w.heap.size w F ∧ Below w2.heap.size w2 F) := ⟨hB2.out.1.trans (jb.mono hB2.out.1.size), jb⟩
    have j3 : Cells2 F w.heap.size 0 0 := hB2.out.2.below jb hB2.out.2.lt
    have m5 : w.heap.size ≠ w2.heap.size := by have := hB2.out.2.lt; omega
    have m6 : w.heap.size ≠ w2.heap.size + 1 := by have := hB2.out.2.lt; omega
    obtain ⟨b6, hb6⟩ : ∃ z, z = w2.heap.size + 1 := ⟨_, rfl⟩
    obtain ⟨b5, hb5⟩ : ∃ z, z = w2.heap.size := ⟨_, rfl⟩
    rw [← hb6] at j6 m6 ⊢
    rw [← hb5] at j5 m5 ⊢
    clear hF jb hb5 hb6
    obtain ⟨X0, hX0⟩ : ∃ Z, Z = F.drew := ⟨_, rfl⟩
    have hB4 : Aside (Below w.heap.size w X0 ∧ Below w2.heap.size w2 X0) := by rw [hX0]; exact ⟨hB3.out.1.drew, hB3.out.2.drew⟩
    replace j3 : Cells2 X0 w.heap.size 0 0 := by rw [hX0]; exact j3.drew
    replace j5 : Cells2 X0 b5 0 0 := by rw [hX0]; exact j5.drew
    replace j6 : Cells2 X0 b6 ec ep := by rw [hX0]; exact j6.drew
    clear hB3
    refine wp_region_held_drew (S := fun w' => w'.cell? ⟨b5, 0, none⟩ = some (.int .i64 0) ∧ w'.cell? ⟨b5, 1, none⟩ = some (.int .i64 0) ∧ w'.cell? ⟨b6, 0, none⟩ = some (.int .i64 ec) ∧ w'.cell? ⟨b6, 1, none⟩ = some (.int .i64 ep)) (by kernel_rfl) (by rw [← hX0]; exact ⟨j5.c0, j5.c1, j6.c0, j6.c1⟩) (fun hHeld => ?_)
    rw [← hX0] at hHeld ⊢
    clear hX0
    refine wpAnyH_take (i := 0) (v := ?v0_1) rfl (by kernel_rfl) (by kernel_rfl) (by kernel_rfl) (fun _ _ _ h => h) (Or.inl ⟨by kernel_rfl, ?h0_1⟩) hHeld ?r0_1
    case h0_1 => (rintro w' ⟨q0, q1, q2, q3⟩; go_simp; try (with_reducible rfl))
    try simp only [Act.put, List.getElem_toArray, List.getElem_cons_zero, List.getElem_cons_succ, List.setIfInBounds_toArray, List.set_cons_zero, List.set_cons_succ]
    refine wpAnyH_take (i := 1) (v := ?v1_2) rfl (by kernel_rfl) (by kernel_rfl) (by kernel_rfl) (fun _ _ _ h => h) (Or.inl ⟨by kernel_rfl, ?h1_2⟩) hHeld ?r1_2
    case h1_2 => (rintro w' ⟨q0, q1, q2, q3⟩; go_simp; try (with_reducible rfl))
    try simp only [Act.put, List.getElem_toArray, List.getElem_cons_zero, List.getElem_cons_succ, List.setIfInBounds_toArray, List.set_cons_zero, List.set_cons_succ]
    refine wpAnyH_take (i := 2) (v := ?v2_3) rfl (by kernel_rfl) (by kernel_rfl) (by kernel_rfl) (fun _ _ _ h => h) (Or.inl ⟨by kernel_rfl, ?h2_3⟩) hHeld ?r2_3
    case h2_3 => (rintro w' ⟨q0, q1, q2, q3⟩; go_simp; try (with_reducible rfl))
    try simp only [Act.put, List.getElem_toArray, List.getElem_cons_zero, List.getElem_cons_succ, List.setIfInBounds_toArray, List.set_cons_zero, List.set_cons_succ]
    refine wpAnyH_take (i := 3) (v := ?v3_4) rfl (by kernel_rfl) (by kernel_rfl) (by kernel_rfl) (fun _ _ _ h => h) (Or.inl ⟨by kernel_rfl, ?h3_4⟩) hHeld ?r3_4
    case h3_4 => (rintro w' ⟨q0, q1, q2, q3⟩; go_simp; try (with_reducible rfl))
    try simp only [Act.put, List.getElem_toArray, List.getElem_cons_zero, List.getElem_cons_succ, List.setIfInBounds_toArray, List.set_cons_zero, List.set_cons_succ]
    refine wpAnyH_take (i := 4) (v := undef) rfl (by kernel_rfl) (by kernel_rfl) (by kernel_rfl) (fun _ _ _ h => h) (Or.inr ⟨by kernel_rfl, rfl⟩) hHeld ?_
    try simp only [Act.put, List.getElem_toArray, List.getElem_cons_zero, List.getElem_cons_succ, List.setIfInBounds_toArray, List.set_cons_zero, List.set_cons_succ]
    refine wpAnyH_take (i := 5) (v := undef) rfl (by kernel_rfl) (by kernel_rfl) (by kernel_rfl) (fun _ _ _ h => h) (Or.inr ⟨by kernel_rfl, rfl⟩) hHeld ?_
    try simp only [Act.put, List.getElem_toArray, List.getElem_cons_zero, List.getElem_cons_succ, List.setIfInBounds_toArray, List.set_cons_zero, List.set_cons_succ]
    refine wpAnyH_take (i := 6) (v := undef) rfl (by kernel_rfl) (by kernel_rfl) (by kernel_rfl) (fun _ _ _ h => h) (Or.inr ⟨by kernel_rfl, rfl⟩) hHeld ?_
    try simp only [Act.put, List.getElem_toArray, List.getElem_cons_zero, List.getElem_cons_succ, List.setIfInBounds_toArray, List.set_cons_zero, List.set_cons_succ]
    refine wpAnyH_take (i := 7) (v := ?v7_8) rfl (by kernel_rfl) (by kernel_rfl) (by kernel_rfl) (fun _ _ _ h => h) (Or.inl ⟨by kernel_rfl, ?h7_8⟩) hHeld ?r7_8
    case h7_8 => (rintro w' ⟨q0, q1, q2, q3⟩; go_simp; try (with_reducible rfl))
    try simp only [Act.put, List.getElem_toArray, List.getElem_cons_zero, List.getElem_cons_succ, List.setIfInBounds_toArray, List.set_cons_zero, List.set_cons_succ]
    refine wpAnyH_done (by kernel_rfl) ?_ _
    try simp only [Act.put, List.getElem_toArray, List.getElem_cons_zero, List.getElem_cons_succ, List.setIfInBounds_toArray, List.set_cons_zero, List.set_cons_succ]
    clear hHeld
    go_wp2
    obtain ⟨X1, hX1⟩ : ∃ Z, Z = X0.drew := ⟨_, rfl⟩
    refine wp_region_held_drew (S := fun w' => w'.cell? ⟨b5, 0, none⟩ = some (.int .i64 0) ∧ w'.cell? ⟨b5, 1, none⟩ = some (.int .i64 0) ∧ w'.cell? ⟨b6, 0, none⟩ = some (.int .i64 ec) ∧ w'.cell? ⟨b6, 1, none⟩ = some (.int .i64 ep)) (by kernel_rfl) ⟨j5.c0, j5.c1, j6.c0, j6.c1⟩ (fun hHeld => ?_)
    rw [← hX1] at hHeld ⊢
    refine wpAnyH_take (i := 0) (v := ?v0_9) rfl (by kernel_rfl) (by kernel_rfl) (by kernel_rfl) (fun _ _ _ h => h) (Or.inl ⟨by kernel_rfl, ?h0_9⟩) hHeld ?r0_9
    case h0_9 => (rintro w' ⟨q0, q1, q2, q3⟩; go_simp; try (with_reducible rfl))
    try simp only [Act.put, List.getElem_toArray, List.getElem_cons_zero, List.getElem_cons_succ, List.setIfInBounds_toArray, List.set_cons_zero, List.set_cons_succ]
    refine wpAnyH_take (i := 1) (v := ?v1_10) rfl (by kernel_rfl) (by kernel_rfl) (by kernel_rfl) (fun _ _ _ h => h) (Or.inl ⟨by kernel_rfl, ?h1_10⟩) hHeld ?r1_10
    case h1_10 => (rintro w' ⟨q0, q1, q2, q3⟩; go_simp; try (with_reducible rfl))
    try simp only [Act.put, List.getElem_toArray, List.getElem_cons_zero, List.getElem_cons_succ, List.setIfInBounds_toArray, List.set_cons_zero, List.set_cons_succ]
    refine wpAnyH_take (i := 2) (v := ?v2_11) rfl (by kernel_rfl) (by kernel_rfl) (by kernel_rfl) (fun _ _ _ h => h) (Or.inl ⟨by kernel_rfl, ?h2_11⟩) hHeld ?r2_11
    case h2_11 => (rintro w' ⟨q0, q1, q2, q3⟩; go_simp; try (with_reducible rfl))
    try simp only [Act.put, List.getElem_toArray, List.getElem_cons_zero, List.getElem_cons_succ, List.setIfInBounds_toArray, List.set_cons_zero, List.set_cons_succ]
    obtain ⟨k0, k1, kf0, kf1, kl⟩ : Cells2 X1 w.heap.size 0 0 := by rw [hX1]; exact j3.drew
    have hB5 : Aside (Below w.heap.size w X1 ∧ Below w2.heap.size w2 X1) := by rw [hX1]; exact ⟨hB4.out.1.drew, hB4.out.2.drew⟩
    clear hX1 j3
    refine wpAnyH_ready (rs := [3]) (by kernel_rfl) (by simp) ?_
    refine AllReadyH.cons (o := { dst := none, op := Op.store 26 (Operand.tmp 3) (Operand.tmp 26), type := 0, pos := "read.go:144", after := #[{ on := 1, ground := Ground.data }, { on := 2, ground := Ground.chain }, { on := 0, ground := Ground.phase }, { on := 1, ground := Ground.phase }, { on := 2, ground := Ground.phase }], guard := none }) rfl (fun K hK => ?_) AllReadyH.nil
    go_simp
    refine hK.out _ _ ⟨(far2 m5).trans hHeld.1, (far2 m5).trans hHeld.2.1, (far2 m6).trans hHeld.2.2.1, (far2 m6).trans hHeld.2.2.2⟩ (fun hH2 => ?_)
    clear hK K
    try simp only [Act.put, List.getElem_toArray, List.getElem_cons_zero, List.getElem_cons_succ, List.setIfInBounds_toArray, List.set_cons_zero, List.set_cons_succ]
    refine wpAnyH_done (by kernel_rfl) ?_ _
    try simp only [Act.put, List.getElem_toArray, List.getElem_cons_zero, List.getElem_cons_succ, List.setIfInBounds_toArray, List.set_cons_zero, List.set_cons_succ]
    clear hH2 hHeld
    go_wp2
    refine bodyPost_ret (v := .tuple #[.slice none 0 0, .agg #[.int .i64 ec, .int .i64 ep]]) ?_ rfl ⟨rfl, (hB5.out.1.setCell (p := ⟨w.heap.size, 0, none⟩) (Nat.le_refl _) _).setCell (p := ⟨w.heap.size, 1, none⟩) (Nat.le_refl _) _⟩
    simp [results, Tryz.results7, go_sem, k0, k1, kl, kf0, kf1]
  | ok s =>
    clear hdb
    dsimp only
    obtain ⟨sg0, hsg0⟩ : ∃ z, z = s.g0 := ⟨_, rfl⟩
    obtain ⟨sg1, hsg1⟩ : ∃ z, z = s.g1 := ⟨_, rfl⟩
    have HDec2 : Hid (∀ X, Below w.heap.size w X → Calls Tryz.prog 17 #[.slice a N cp, .agg #[.int .i64 1, .int .i64 2]] X fun e w' => ∃ v, e = .returned (.tuple #[v, .agg #[.int .i64 sg0, .int .i64 sg1], .agg #[.int .i64 0, .int .i64 0]]) ∧ Aside (OwnR w' X.heap.size v s.out ∧ Below X.heap.size X w')) := fun X hX => (HDec.out X hX).mono fun e w' ⟨v, h1, h2, h3⟩ => ⟨v, by rw [hsg0, hsg1]; exact h1, h2, h3⟩
    rw [← hsg0, ← hsg1]
    clear HDec hsg0 hsg1
    by_cases hd : sg0 = 1 ∧ sg1 = 2
    · obtain ⟨rfl, rfl⟩ := hd
      rw [if_neg (by decide)]
      go_enter Tryz.func7, Tryz.ntmps7
      go_wp2_with (first
        | (go_at_call 18; refine HD.out.mono ?_; rintro e w1 ⟨rfl, hA⟩; clear HD)
        | (go_at_call 17; refine (HDec2.out _ hA.out.1).mono ?_; rintro e w2 ⟨v, rfl, hB⟩; have hB2 : Aside (Below w.heap.size w w2 ∧ Cells2 w2 w.heap.size 0 0) := ⟨hA.out.1.trans (hB.out.2.mono hA.out.1.size), hA.out.2.below hB.out.2 hA.out.2.lt⟩; have hOw : Aside (OwnR w2 (w.heap.size + 1) v s.out) := hB.out.1.base hA.out.2.lt; clear HDec2 hA hB))
      obtain ⟨F, hF⟩ : ∃ Z, Z = ((w2.alloc (.cells #[.int .i64 1, .int .i64 2] 53)).alloc (.cells #[.int .i64 0, .int .i64 0] 26)) := ⟨_, rfl⟩
      obtain ⟨j5, j6, jb⟩ := two w2 1 2 0 0
      rw [← hF] at j5 j6 jb ⊢
      have hB3 : Aside (Below w.heap.size w F ∧ Below w2.heap.size w2 F) := ⟨hB2.out.1.trans (jb.mono hB2.out.1.size), jb⟩
      have j3 : Cells2 F w.heap.size 0 0 := hB2.out.2.below jb hB2.out.2.lt
      have m5 : w.heap.size ≠ w2.heap.size := by have := hB2.out.2.lt; omega
      have m6 : w.heap.size ≠ w2.heap.size + 1 := by have := hB2.out.2.lt; omega
      obtain ⟨b6, hb6⟩ : ∃ z, z = w2.heap.size + 1 := ⟨_, rfl⟩
      obtain ⟨b5, hb5⟩ : ∃ z, z = w2.heap.size := ⟨_, rfl⟩
      rw [← hb6] at j6 m6 ⊢
      rw [← hb5] at j5 m5 ⊢
      clear hF jb hb5 hb6
      obtain ⟨X0, hX0⟩ : ∃ Z, Z = F.drew := ⟨_, rfl⟩
      have hB4 : Aside (Below w.heap.size w X0 ∧ Below w2.heap.size w2 X0) := by rw [hX0]; exact ⟨hB3.out.1.drew, hB3.out.2.drew⟩
      replace j3 : Cells2 X0 w.heap.size 0 0 := by rw [hX0]; exact j3.drew
      replace j5 : Cells2 X0 b5 1 2 := by rw [hX0]; exact j5.drew
      replace j6 : Cells2 X0 b6 0 0 := by rw [hX0]; exact j6.drew
      clear hB3
      refine wp_region_held_drew (S := fun w' => w'.cell? ⟨b5, 0, none⟩ = some (.int .i64 1) ∧ w'.cell? ⟨b5, 1, none⟩ = some (.int .i64 2) ∧ w'.cell? ⟨b6, 0, none⟩ = some (.int .i64 0) ∧ w'.cell? ⟨b6, 1, none⟩ = some (.int .i64 0)) (by kernel_rfl) (by rw [← hX0]; exact ⟨j5.c0, j5.c1, j6.c0, j6.c1⟩) (fun hHeld => ?_)
      rw [← hX0] at hHeld ⊢
      clear hX0
      refine wpAnyH_take (i := 0) (v := ?v0_22) rfl (by kernel_rfl) (by kernel_rfl) (by kernel_rfl) (fun _ _ _ h => h) (Or.inl ⟨by kernel_rfl, ?h0_22⟩) hHeld ?r0_22
      case h0_22 => (rintro w' ⟨q0, q1, q2, q3⟩; go_simp; try (with_reducible rfl))
      try simp only [Act.put, List.getElem_toArray, List.getElem_cons_zero, List.getElem_cons_succ, List.setIfInBounds_toArray, List.set_cons_zero, List.set_cons_succ]
      refine wpAnyH_take (i := 1) (v := ?v1_23) rfl (by kernel_rfl) (by kernel_rfl) (by kernel_rfl) (fun _ _ _ h => h) (Or.inl ⟨by kernel_rfl, ?h1_23⟩) hHeld ?r1_23
      case h1_23 => (rintro w' ⟨q0, q1, q2, q3⟩; go_simp; try (with_reducible rfl))
      try simp only [Act.put, List.getElem_toArray, List.getElem_cons_zero, List.getElem_cons_succ, List.setIfInBounds_toArray, List.set_cons_zero, List.set_cons_succ]
      refine wpAnyH_take (i := 2) (v := ?v2_24) rfl (by kernel_rfl) (by kernel_rfl) (by kernel_rfl) (fun _ _ _ h => h) (Or.inl ⟨by kernel_rfl, ?h2_24⟩) hHeld ?r2_24
      case h2_24 => (rintro w' ⟨q0, q1, q2, q3⟩; go_simp; try (with_reducible rfl))
      try simp only [Act.put, List.getElem_toArray, List.getElem_cons_zero, List.getElem_cons_succ, List.setIfInBounds_toArray, List.set_cons_zero, List.set_cons_succ]
      refine wpAnyH_take (i := 3) (v := ?v3_25) rfl (by kernel_rfl) (by kernel_rfl) (by kernel_rfl) (fun _ _ _ h => h) (Or.inl ⟨by kernel_rfl, ?h3_25⟩) hHeld ?r3_25
      case h3_25 => (rintro w' ⟨q0, q1, q2, q3⟩; go_simp; try (with_reducible rfl))
      try simp only [Act.put, List.getElem_toArray, List.getElem_cons_zero, List.getElem_cons_succ, List.setIfInBounds_toArray, List.set_cons_zero, List.set_cons_succ]
      refine wpAnyH_take (i := 4) (v := ?v4_26) rfl (by kernel_rfl) (by kernel_rfl) (by kernel_rfl) (fun _ _ _ h => h) (Or.inl ⟨by kernel_rfl, ?h4_26⟩) hHeld ?r4_26
      case h4_26 => (rintro w' ⟨q0, q1, q2, q3⟩; go_simp; try (with_reducible rfl))
      try simp only [Act.put, List.getElem_toArray, List.getElem_cons_zero, List.getElem_cons_succ, List.setIfInBounds_toArray, List.set_cons_zero, List.set_cons_succ]
      refine wpAnyH_ready (rs := [5]) (by kernel_rfl) (by simp) ?_
      refine AllReadyH.cons (o := { dst := some 19, op := Op.call { callee := Callee.value (Operand.func 18), args := #[], argTypes := #[] }, type := 53, pos := "read.go:141", after := #[{ on := 3, ground := Ground.chain }, { on := 3, ground := Ground.guard }], guard := some (3, true) }) rfl (fun K hK => ?_) AllReadyH.nil
      go_simp
      refine (HD2.out _).mono ?_
      rintro _ X2 ⟨rfl, hX⟩
      refine hK.out _ _ ⟨(hX.cell (p := ⟨b5, 0, none⟩) j5.lt).trans hHeld.1, (hX.cell (p := ⟨b5, 1, none⟩) j5.lt).trans hHeld.2.1, (hX.cell (p := ⟨b6, 0, none⟩) j6.lt).trans hHeld.2.2.1, (hX.cell (p := ⟨b6, 1, none⟩) j6.lt).trans hHeld.2.2.2⟩ (fun hH2 => ?_)
      clear hK K
      try simp only [Act.put, List.getElem_toArray, List.getElem_cons_zero, List.getElem_cons_succ, List.setIfInBounds_toArray, List.set_cons_zero, List.set_cons_succ]
      refine wpAnyH_take (i := 6) (v := ?v6_27) rfl (by kernel_rfl) (by kernel_rfl) (by kernel_rfl) (fun _ _ _ h => h) (Or.inl ⟨by kernel_rfl, ?h6_27⟩) hH2 ?r6_27
      case h6_27 => (rintro w' ⟨q0, q1, q2, q3⟩; go_simp; try (with_reducible rfl))
      try simp only [Act.put, List.getElem_toArray, List.getElem_cons_zero, List.getElem_cons_succ, List.setIfInBounds_toArray, List.set_cons_zero, List.set_cons_succ]
      refine wpAnyH_take (i := 7) (v := ?v7_28) rfl (by kernel_rfl) (by kernel_rfl) (by kernel_rfl) (fun _ _ _ h => h) (Or.inl ⟨by kernel_rfl, ?h7_28⟩) hH2 ?r7_28
      case h7_28 => (rintro w' ⟨q0, q1, q2, q3⟩; go_simp; try (with_reducible rfl))
      try simp only [Act.put, List.getElem_toArray, List.getElem_cons_zero, List.getElem_cons_succ, List.setIfInBounds_toArray, List.set_cons_zero, List.set_cons_succ]
      refine wpAnyH_done (by kernel_rfl) ?_ _
      try simp only [Act.put, List.getElem_toArray, List.getElem_cons_zero, List.getElem_cons_succ, List.setIfInBounds_toArray, List.set_cons_zero, List.set_cons_succ]
      clear hHeld hH2
      replace j3 := j3.below hX j3.lt
      replace j5 := j5.below hX j5.lt
      replace j6 := j6.below hX j6.lt
      replace hB4 : Aside (Below w.heap.size w X2 ∧ Below w2.heap.size w2 X2) := ⟨hB4.out.1.trans (hX.mono hB4.out.1.size), hB4.out.2.trans (hX.mono hB4.out.2.size)⟩
      clear hX HD2
      go_wp2
      obtain ⟨X3, hX1⟩ : ∃ Z, Z = X2.drew := ⟨_, rfl⟩
      refine wp_region_held_drew (S := fun w' => w'.cell? ⟨b5, 0, none⟩ = some (.int .i64 1) ∧ w'.cell? ⟨b5, 1, none⟩ = some (.int .i64 2) ∧ w'.cell? ⟨b6, 0, none⟩ = some (.int .i64 0) ∧ w'.cell? ⟨b6, 1, none⟩ = some (.int .i64 0)) (by kernel_rfl) ⟨j5.c0, j5.c1, j6.c0, j6.c1⟩ (fun hHeld => ?_)
      rw [← hX1] at hHeld ⊢
      refine wpAnyH_take (i := 0) (v := ?v0_19) rfl (by kernel_rfl) (by kernel_rfl) (by kernel_rfl) (fun _ _ _ h => h) (Or.inl ⟨by kernel_rfl, ?h0_19⟩) hHeld ?r0_19
      case h0_19 => (rintro w' ⟨q0, q1, q2, q3⟩; go_simp; try (with_reducible rfl))
      try simp only [Act.put, List.getElem_toArray, List.getElem_cons_zero, List.getElem_cons_succ, List.setIfInBounds_toArray, List.set_cons_zero, List.set_cons_succ]
      refine wpAnyH_take (i := 1) (v := ?v1_20) rfl (by kernel_rfl) (by kernel_rfl) (by kernel_rfl) (fun _ _ _ h => h) (Or.inl ⟨by kernel_rfl, ?h1_20⟩) hHeld ?r1_20
      case h1_20 => (rintro w' ⟨q0, q1, q2, q3⟩; go_simp; try (with_reducible rfl))
      try simp only [Act.put, List.getElem_toArray, List.getElem_cons_zero, List.getElem_cons_succ, List.setIfInBounds_toArray, List.set_cons_zero, List.set_cons_succ]
      refine wpAnyH_take (i := 2) (v := ?v2_21) rfl (by kernel_rfl) (by kernel_rfl) (by kernel_rfl) (fun _ _ _ h => h) (Or.inl ⟨by kernel_rfl, ?h2_21⟩) hHeld ?r2_21
      case h2_21 => (rintro w' ⟨q0, q1, q2, q3⟩; go_simp; try (with_reducible rfl))
      try simp only [Act.put, List.getElem_toArray, List.getElem_cons_zero, List.getElem_cons_succ, List.setIfInBounds_toArray, List.set_cons_zero, List.set_cons_succ]
      obtain ⟨k0, k1, kf0, kf1, kl⟩ : Cells2 X3 w.heap.size 0 0 := by rw [hX1]; exact j3.drew
      have hB5 : Aside (Below w.heap.size w X3 ∧ Below w2.heap.size w2 X3) := by rw [hX1]; exact ⟨hB4.out.1.drew, hB4.out.2.drew⟩
      clear hX1 j3
      refine wpAnyH_ready (rs := [3]) (by kernel_rfl) (by simp) ?_
      refine AllReadyH.cons (o := { dst := none, op := Op.store 26 (Operand.tmp 3) (Operand.tmp 26), type := 0, pos := "read.go:144", after := #[{ on := 1, ground := Ground.data }, { on := 2, ground := Ground.chain }, { on := 0, ground := Ground.phase }, { on := 1, ground := Ground.phase }, { on := 2, ground := Ground.phase }], guard := none }) rfl (fun K hK => ?_) AllReadyH.nil
      go_simp
      refine hK.out _ _ ⟨(far2 m5).trans hHeld.1, (far2 m5).trans hHeld.2.1, (far2 m6).trans hHeld.2.2.1, (far2 m6).trans hHeld.2.2.2⟩ (fun hH2 => ?_)
      clear hK K
      try simp only [Act.put, List.getElem_toArray, List.getElem_cons_zero, List.getElem_cons_succ, List.setIfInBounds_toArray, List.set_cons_zero, List.set_cons_succ]
      refine wpAnyH_done (by kernel_rfl) ?_ _
      try simp only [Act.put, List.getElem_toArray, List.getElem_cons_zero, List.getElem_cons_succ, List.setIfInBounds_toArray, List.set_cons_zero, List.set_cons_succ]
      clear hH2 hHeld
      go_wp2
      refine bodyPost_ret (v := .tuple #[v, .agg #[.int .i64 0, .int .i64 0]]) ?_ rfl ⟨_, rfl, ((((hOw.out.below (hB5.out.2)).put (a := ⟨w.heap.size, 0, none⟩) (Nat.lt_succ_self _) _).put (a := ⟨w.heap.size, 1, none⟩) (Nat.lt_succ_self _) _).base (Nat.le_succ _)), (hB5.out.1.setCell (p := ⟨w.heap.size, 0, none⟩) (Nat.le_refl _) _).setCell (p := ⟨w.heap.size, 1, none⟩) (Nat.le_refl _) _⟩
      simp [results, Tryz.results7, go_sem, k0, k1, kl, kf0, kf1]
    · rw [if_pos (by omega)]
      have HF : Hid (∀ X, Calls Tryz.prog 19 #[.int .i64 7, .int .i64 (N : Int)] X fun e w' => e = .returned (.agg #[.int .i64 7, .int .i64 (N : Int)]) ∧ Below X.heap.size X w') := cFault 7 N
      have hbb : (sg0 == 1) = false ∨ sg0 = 1 ∧ (sg1 == 2) = false := by
        by_cases h : sg0 = 1
        · exact .inr ⟨h, by simpa using fun e => hd ⟨h, e⟩⟩
        · exact .inl (by simpa using h)
      clear hd
      go_enter Tryz.func7, Tryz.ntmps7
      go_wp2_with (first
        | (go_at_call 18; refine HD.out.mono ?_; rintro e w1 ⟨rfl, hA⟩; clear HD)
        | (go_at_call 17; refine (HDec2.out _ hA.out.1).mono ?_; rintro e w2 ⟨v, rfl, hB⟩; have hB2 : Aside (Below w.heap.size w w2 ∧ Cells2 w2 w.heap.size 0 0) := ⟨hA.out.1.trans (hB.out.2.mono hA.out.1.size), hA.out.2.below hB.out.2 hA.out.2.lt⟩; clear HDec2 hA hB))
      obtain ⟨F, hF⟩ : ∃ Z, Z = ((w2.alloc (.cells #[.int .i64 sg0, .int .i64 sg1] 53)).alloc (.cells #[.int .i64 0, .int .i64 0] 26)) := ⟨_, rfl⟩
      obtain ⟨j5, j6, jb⟩ := two w2 sg0 sg1 0 0
      rw [← hF] at j5 j6 jb ⊢
      have hB3 : Aside (Below w.heap.size w F ∧ Below w2.heap.size w2 F) := ⟨hB2.out.1.trans (jb.mono hB2.out.1.size), jb⟩
      have j3 : Cells2 F w.heap.size 0 0 := hB2.out.2.below jb hB2.out.2.lt
      have m5 : w.heap.size ≠ w2.heap.size := by have := hB2.out.2.lt; omega
      have m6 : w.heap.size ≠ w2.heap.size + 1 := by have := hB2.out.2.lt; omega
      obtain ⟨b6, hb6⟩ : ∃ z, z = w2.heap.size + 1 := ⟨_, rfl⟩
      obtain ⟨b5, hb5⟩ : ∃ z, z = w2.heap.size := ⟨_, rfl⟩
      rw [← hb6] at j6 m6 ⊢
      rw [← hb5] at j5 m5 ⊢
      clear hF jb hb5 hb6
      obtain ⟨X0, hX0⟩ : ∃ Z, Z = F.drew := ⟨_, rfl⟩
      have hB4 : Aside (Below w.heap.size w X0 ∧ Below w2.heap.size w2 X0) := by rw [hX0]; exact ⟨hB3.out.1.drew, hB3.out.2.drew⟩
      replace j3 : Cells2 X0 w.heap.size 0 0 := by rw [hX0]; exact j3.drew
      replace j5 : Cells2 X0 b5 sg0 sg1 := by rw [hX0]; exact j5.drew
      replace j6 : Cells2 X0 b6 0 0 := by rw [hX0]; exact j6.drew
      clear hB3
      refine wp_region_held_drew (S := fun w' => w'.cell? ⟨b5, 0, none⟩ = some (.int .i64 sg0) ∧ w'.cell? ⟨b5, 1, none⟩ = some (.int .i64 sg1) ∧ w'.cell? ⟨b6, 0, none⟩ = some (.int .i64 0) ∧ w'.cell? ⟨b6, 1, none⟩ = some (.int .i64 0)) (by kernel_rfl) (by rw [← hX0]; exact ⟨j5.c0, j5.c1, j6.c0, j6.c1⟩) (fun hHeld => ?_)
      rw [← hX0] at hHeld ⊢
      clear hX0
      refine wpAnyH_take (i := 0) (v := ?v0_12) rfl (by kernel_rfl) (by kernel_rfl) (by kernel_rfl) (fun _ _ _ h => h) (Or.inl ⟨by kernel_rfl, ?h0_12⟩) hHeld ?r0_12
      case h0_12 => (rintro w' ⟨q0, q1, q2, q3⟩; go_simp; try (with_reducible rfl))
      try simp only [Act.put, List.getElem_toArray, List.getElem_cons_zero, List.getElem_cons_succ, List.setIfInBounds_toArray, List.set_cons_zero, List.set_cons_succ]
      refine wpAnyH_take (i := 1) (v := ?v1_13) rfl (by kernel_rfl) (by kernel_rfl) (by kernel_rfl) (fun _ _ _ h => h) (Or.inl ⟨by kernel_rfl, ?h1_13⟩) hHeld ?r1_13
      case h1_13 => (rintro w' ⟨q0, q1, q2, q3⟩; go_simp; try (with_reducible rfl))
      try simp only [Act.put, List.getElem_toArray, List.getElem_cons_zero, List.getElem_cons_succ, List.setIfInBounds_toArray, List.set_cons_zero, List.set_cons_succ]
      refine wpAnyH_take (i := 2) (v := ?v2_14) rfl (by kernel_rfl) (by kernel_rfl) (by kernel_rfl) (fun _ _ _ h => h) (Or.inl ⟨by kernel_rfl, ?h2_14⟩) hHeld ?r2_14
      case h2_14 => (rintro w' ⟨q0, q1, q2, q3⟩; go_simp; try (with_reducible rfl))
      try simp only [Act.put, List.getElem_toArray, List.getElem_cons_zero, List.getElem_cons_succ, List.setIfInBounds_toArray, List.set_cons_zero, List.set_cons_succ]
      refine wpAnyH_take (i := 3) (v := ?v3_15) rfl (by kernel_rfl) (by kernel_rfl) (by kernel_rfl) (fun _ _ _ h => h) (Or.inl ⟨by kernel_rfl, ?h3_15⟩) hHeld ?r3_15
      case h3_15 => (rintro w' ⟨q0, q1, q2, q3⟩; go_simp; try (with_reducible rfl))
      try simp only [Act.put, List.getElem_toArray, List.getElem_cons_zero, List.getElem_cons_succ, List.setIfInBounds_toArray, List.set_cons_zero, List.set_cons_succ]
      refine wpAnyH_take (i := 4) (v := ?v4_16) rfl (by kernel_rfl) (by kernel_rfl) (by kernel_rfl) (fun _ _ _ h => h) (Or.inl ⟨by kernel_rfl, ?h4_16⟩) hHeld ?r4_16
      case h4_16 => (rintro w' ⟨q0, q1, q2, q3⟩; go_simp; try (with_reducible rfl))
      try simp only [Act.put, List.getElem_toArray, List.getElem_cons_zero, List.getElem_cons_succ, List.setIfInBounds_toArray, List.set_cons_zero, List.set_cons_succ]
      refine wpAnyH_ready (rs := [5]) (by kernel_rfl) (by simp) ?_
      refine AllReadyH.cons (o := { dst := some 19, op := Op.call { callee := Callee.value (Operand.func 18), args := #[], argTypes := #[] }, type := 53, pos := "read.go:141", after := #[{ on := 3, ground := Ground.chain }, { on := 3, ground := Ground.guard }], guard := some (3, true) }) rfl (fun K hK => ?_) AllReadyH.nil
      go_simp
      refine (HD2.out _).mono ?_
      rintro _ X2 ⟨rfl, hX⟩
      refine hK.out _ _ ⟨(hX.cell (p := ⟨b5, 0, none⟩) j5.lt).trans hHeld.1, (hX.cell (p := ⟨b5, 1, none⟩) j5.lt).trans hHeld.2.1, (hX.cell (p := ⟨b6, 0, none⟩) j6.lt).trans hHeld.2.2.1, (hX.cell (p := ⟨b6, 1, none⟩) j6.lt).trans hHeld.2.2.2⟩ (fun hH2 => ?_)
      clear hK K
      try simp only [Act.put, List.getElem_toArray, List.getElem_cons_zero, List.getElem_cons_succ, List.setIfInBounds_toArray, List.set_cons_zero, List.set_cons_succ]
      refine wpAnyH_take (i := 6) (v := .bool true) rfl (by kernel_rfl) (by kernel_rfl) (by kernel_rfl) (fun _ _ _ h => h) (Or.inl ⟨by kernel_rfl, ?h6_17⟩) hH2 ?r6_17
      case h6_17 => (rintro w' ⟨q0, q1, q2, q3⟩; rcases hbb with hbb | ⟨rfl, hbb⟩ <;> (go_simp; try (with_reducible rfl)))
      try simp only [Act.put, List.getElem_toArray, List.getElem_cons_zero, List.getElem_cons_succ, List.setIfInBounds_toArray, List.set_cons_zero, List.set_cons_succ]
      refine wpAnyH_take (i := 7) (v := ?v7_18) rfl (by kernel_rfl) (by kernel_rfl) (by kernel_rfl) (fun _ _ _ h => h) (Or.inl ⟨by kernel_rfl, ?h7_18⟩) hH2 ?r7_18
      case h7_18 => (rintro w' ⟨q0, q1, q2, q3⟩; go_simp; try (with_reducible rfl))
      try simp only [Act.put, List.getElem_toArray, List.getElem_cons_zero, List.getElem_cons_succ, List.setIfInBounds_toArray, List.set_cons_zero, List.set_cons_succ]
      refine wpAnyH_done (by kernel_rfl) ?_ _
      try simp only [Act.put, List.getElem_toArray, List.getElem_cons_zero, List.getElem_cons_succ, List.setIfInBounds_toArray, List.set_cons_zero, List.set_cons_succ]
      clear hHeld hH2
      replace j3 := j3.below hX j3.lt
      replace j5 := j5.below hX j5.lt
      replace j6 := j6.below hX j6.lt
      replace hB4 : Aside (Below w.heap.size w X2 ∧ Below w2.heap.size w2 X2) := ⟨hB4.out.1.trans (hX.mono hB4.out.1.size), hB4.out.2.trans (hX.mono hB4.out.2.size)⟩
      clear hX HD2
      obtain ⟨k0, k1, kf0, kf1, kl⟩ := j3
      have hB5 := hB4
      have HF2 : Hid (Calls Tryz.prog 19 #[.int .i64 7, .int .i64 (N : Int)] X2 fun e w' => e = .returned (.agg #[.int .i64 7, .int .i64 (N : Int)]) ∧ Cells2 w' w.heap.size 0 0 ∧ Aside (Below w.heap.size w w')) := (HF.out X2).mono fun e w' h => ⟨h.1, Cells2.below ⟨k0, k1, kf0, kf1, kl⟩ h.2 kl, hB5.out.1.trans (h.2.mono hB5.out.1.size)⟩
      clear k0 k1 kf0 kf1 kl HF
      go_wp2_with (go_at_call 19; refine HF2.out.mono ?_; rintro e w4 ⟨rfl, ⟨k0, k1, kf0, kf1, kl⟩, hB6⟩; clear HF2)
      refine bodyPost_ret (v := .tuple #[.slice none 0 0, .agg #[.int .i64 7, .int .i64 (N : Int)]]) ?_ rfl ⟨rfl, (hB6.out.setCell (p := ⟨w.heap.size, 0, none⟩) (Nat.le_refl _) _).setCell (p := ⟨w.heap.size, 1, none⟩) (Nat.le_refl _) _⟩
      simp [results, Tryz.results7, go_sem, k0, k1, kl, kf0, kf1]
end Go.Proofs.YtemhfcgkfdklhaaGreatDoor.Look
