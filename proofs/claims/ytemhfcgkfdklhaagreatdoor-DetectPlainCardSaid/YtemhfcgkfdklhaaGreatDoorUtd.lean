/- utf.Decode; detect.isMarc8, isUTF8. -/
import Derived.Test.YtemhfcgkfdklhaaGreatDoorUtf
set_option linter.all false
namespace Go.Proofs.YtemhfcgkfdklhaaGreatDoor.Look
open Go Go.RowKit Go.Shelf Go.Proofs Go.Proofs.YtemhfcgkfdklhaaGreatDoor.Rd

def okF : Nat → List Int → Bool
  | 0, _ => true
  | _ + 1, [] => true
  | f + 1, c :: t => match nextU (c :: t) with
    | none => false
    | some (_, n) => okF f ((c :: t).drop n)
/-- Are bytes UTF-8? -/
def uV (l : List Int) : Bool := okF l.length l
theorem nextU_le {c : Int} {t : List Int} {r : Int} {n : Nat} (h : nextU (c :: t) = some (r, n)) : 0 < n ∧ n ≤ t.length + 1 := by
  rw [nextU_cons] at h
  split at h
  · cases h
  · rename_i hc
    split at h
    · cases h
    · split at h
      · injection h with h
        injection h with h1 h2
        omega
      · cases h
theorem okF_any : ∀ (f g : Nat) (l : List Int), l.length ≤ f → l.length ≤ g → okF f l = okF g l
  | 0, 0, _, _, _ => rfl
  | 0, g + 1, l, h, _ => by
    obtain rfl : l = [] := List.eq_nil_of_length_eq_zero (by omega)
    rfl
  | f + 1, 0, l, _, h => by
    obtain rfl : l = [] := List.eq_nil_of_length_eq_zero (by omega)
    rfl
  | f + 1, g + 1, [], _, _ => rfl
  | f + 1, g + 1, c :: t, h1, h2 => by
    unfold okF
    cases hn : nextU (c :: t) with
    | none => rfl
    | some x =>
      obtain ⟨r, n⟩ := x
      have := nextU_le hn
      simp only [List.length_cons] at h1 h2
      exact okF_any f g _ (by rw [List.length_drop, List.length_cons]; omega) (by rw [List.length_drop, List.length_cons]; omega)
theorem uV_cons (c : Int) (t : List Int) : uV (c :: t) = match nextU (c :: t) with
    | none => false
    | some (_, n) => uV ((c :: t).drop n) := by
  show okF (t.length + 1) (c :: t) = _
  unfold okF
  cases hn : nextU (c :: t) with
  | none => rfl
  | some x =>
    obtain ⟨r, n⟩ := x
    have := nextU_le hn
    exact okF_any _ _ _ (by rw [List.length_drop, List.length_cons]; omega) (Nat.le_refl _)

set_option maxHeartbeats 8000000 in
set_option maxRecDepth 100000 in
theorem cDecodeU (w : World) (a : Option Addr) (cp : Nat) (l : List Int) (hrow : RowB w a l) (hcp : l.length ≤ cp) (hcp2 : cp ≤ 9223372036854775807) (hn2 : l.length ≤ 2000000) :
    Calls Tryz.prog 36 #[.slice a l.length cp] w fun e w' => ∃ v e1, e = .returned (.tuple #[v, .agg #[.int .i64 (if uV l = true then 0 else 2), .int .i64 e1]]) ∧ Below w.heap.size w w' := by
  obtain ⟨W0, hW0⟩ : ∃ W0, W0 = w.alloc (.cells #[.int .i64 0, .int .i64 0] 26) := ⟨_, rfl⟩
  have hb0 : Below w.heap.size w W0 := by rw [hW0]; exact (Below.refl _ w).alloc (Nat.le_refl _) _
  have hz : At2 W0 w.heap.size 0 0 26 := by rw [hW0]; exact At2.new _ _ _ _
  obtain ⟨E0, hE0⟩ : ∃ E, E = (if uV l = true then (0 : Int) else 2) := ⟨_, rfl⟩
  rw [← hE0]
  have HE : Aside (E0 = if uV l = true then (0 : Int) else 2) := hE0
  clear hE0
  obtain ⟨N, hN⟩ : ∃ N, N = l.length := ⟨_, rfl⟩
  rw [← hN] at hcp hn2 ⊢
  have HL : Aside (N = l.length ∧ RowB w a l ∧ Below w.heap.size w W0 ∧ At2 W0 w.heap.size 0 0 26 ∧ w.heap.size < W0.heap.size) := ⟨hN, hrow, hb0, hz, hz.lt⟩
  clear hN hrow hb0 hz
  go_enter Tryz.func36, Tryz.ntmps36
  go_wp2_with fail
  rw [← hW0]
  replace hW0 := Lib.hid hW0
  go_loopg [4, 5, 6, 7] N (fun g v4 v5 v6 v7 wr => ∃ (p : Nat), v5 = .int .i64 (p : Int) ∧ p ≤ N ∧ N - p ≤ g ∧ Aside (∃ out, OwnR wr W0.heap.size v4 out ∧ out.length ≤ p ∧ Below W0.heap.size W0 wr ∧ uV l = uV (l.drop p)))
  case atStart => exact ⟨0, rfl, by omega, by omega, [], World.ownsRow_nil _ _ _ _, by simp, Below.refl _ _, by rw [List.drop_zero]⟩
  case round =>
    obtain ⟨p, rfl, hp, hg1, HI⟩ := hrel
    by_cases hlt : p < N
    · have hltz : (p : Int) < (N : Int) := by omega
      have hp0 : (0 : Int) ≤ (p : Int) := by omega
      have hpc : (p : Int) ≤ (cp : Int) := by omega
      have hpN : (p : Int) ≤ (N : Int) := by omega
      have hcpp : ¬ cp = p := by omega
      have hNc : (N : Int) ≤ (cp : Int) := by omega
      obtain ⟨b, off, rfl, hb, hc⟩ := HL.out.2.1 (fun e => by have := HL.out.1; rw [e] at this; simp at this; omega)
      have hd : l.drop p = (l.drop p).headD 0 :: l.drop (p + 1) := by
        have hpl : p < l.length := by have := HL.out.1; omega
        rw [List.drop_eq_getElem_cons hpl]; rfl
      have hNx : Calls Tryz.prog 52 #[.slice (some ⟨b, off + p, none⟩) (N - p) (cp - p)] wr fun e w' => e = .returned (retU (nextU (l.drop p))) ∧ Below wr.heap.size wr w' := by
        have hlen : ((l.drop p).headD 0 :: l.drop (p + 1)).length = N - p := by rw [← hd, List.length_drop]; have := HL.out.1; omega
        have hbw : Below w.heap.size w wr := by
          obtain ⟨out, _, _, h3, _⟩ := HI.out
          exact HL.out.2.2.1.trans (h3.mono HL.out.2.2.1.size)
        have := cNextU b (off + p) (cp - p) ((l.drop p).headD 0) (l.drop (p + 1)) wr (fun j x hx => by
          rw [← hd, List.getElem?_drop] at hx
          have := (hbw.cell (p := ⟨b, off + (p + j), none⟩) hb).trans (hc _ _ hx)
          rwa [Nat.add_assoc]) (by omega) (by omega) (by omega)
        rw [hlen, ← hd] at this
        exact this
      have hU : uV (l.drop p) = match nextU (l.drop p) with | none => false | some (_, n) => uV ((l.drop p).drop n) := by
        rw [hd]; exact uV_cons _ _
      have hnl : ∀ r n, nextU (l.drop p) = some (r, n) → 0 < n ∧ n ≤ N - p := fun r n h => by
        rw [hd] at h
        have := nextU_le h
        rw [List.length_drop] at this
        have := HL.out.1
        omega
      have HC := Lib.hid hNx
      clear hd hc hNx
      generalize nextU (l.drop p) = x at HC hU hnl
      cases x with
      | none =>
        have hu : Aside (uV l = false) := by
          obtain ⟨out, _, _, _, h4⟩ := HI.out
          exact h4.trans hU
        have HCn : Hid (Calls Tryz.prog 52 #[.slice (some ⟨b, off + p, none⟩) (N - p) (cp - p)] wr fun e w' => e = .returned (.tuple #[.int .i32 0, .int .i64 0]) ∧ Aside (Below w.heap.size w w') ∧ Cells2 w' w.heap.size 0 0) := HC.out.mono fun e w' h => by
          obtain ⟨out, _, _, h3, _⟩ := HI.out
          have k := (HL.out.2.2.2.1.below h3 HL.out.2.2.2.2)
          have hbw : Below w.heap.size w wr := HL.out.2.2.1.trans (h3.mono HL.out.2.2.1.size)
          exact ⟨h.1, hbw.trans (h.2.mono hbw.size), (k.below h.2 k.lt).cells⟩
        clear HC hU hnl
        go_wp2_with (go_at_call 52; refine HCn.out.mono ?_; rintro e w2 ⟨rfl, hB, ⟨z0, z1, zf0, zf1, zl⟩⟩; clear HCn)
        refine bodyPost_ret (v := .tuple #[.slice none 0 0, .agg #[.int .i64 2, .int .i64 (p : Int)]]) ?_ rfl ⟨_, _, by rw [HE.out, hu.out]; rfl, (hB.out.setCell (p := ⟨w.heap.size, 0, none⟩) (Nat.le_refl _) _).setCell (p := ⟨w.heap.size, 1, none⟩) (Nat.le_refl _) _⟩
        simp [results, Tryz.results36, go_sem, z0, z1, zl, zf0, zf1]
      | some y =>
        obtain ⟨r, n⟩ := y
        obtain ⟨h1, h2⟩ := hnl r n rfl
        have hnz : ((n : Int) == 0) = false := by simp; omega
        have HU : Aside (uV (l.drop p) = uV (l.drop (p + n)) ∧ 0 < n ∧ n ≤ N - p) := ⟨by rw [hU]; show uV ((l.drop p).drop n) = _; rw [List.drop_drop], h1, h2⟩
        have HCn : Hid (Calls Tryz.prog 52 #[.slice (some ⟨b, off + p, none⟩) (N - p) (cp - p)] wr fun e w' => e = .returned (.tuple #[.int .i32 r, .int .i64 n]) ∧ Aside (∃ out, OwnR w' W0.heap.size u4 out ∧ out.length ≤ p ∧ Below W0.heap.size W0 w')) := HC.out.mono fun e w' h => by
          obtain ⟨out, k1, k2, k3, _⟩ := HI.out
          exact ⟨h.1, out, k1.below h.2, k2, k3.trans (h.2.mono k3.size)⟩
        have hpnN : p + n ≤ N := by omega
        clear HC hU hnl
        obtain ⟨out0, hout0⟩ : ∃ o, o = (Classical.choose HI.out) := ⟨_, rfl⟩
        clear hout0
        go_wp2_with (first
          | (at_builtin; obtain ⟨out, k1, k2, k3⟩ := hB.out; refine append_src (by kernel_rfl) _ _ rfl W0.heap.size _ out rfl (k1.alloc _) _ [r] rfl (.inl ⟨⟨w2.heap.size, 0, none⟩, 1, rfl, one_rune _ _ r rfl⟩) (by simp; omega) (by have := k3.size; simp; omega) ?_; intro v' w3 ho hb3; have hB3 : Aside (∃ out, OwnR w3 W0.heap.size v' out ∧ out.length ≤ p + 1 ∧ Below W0.heap.size W0 w3) := ⟨_, ho, by simp; omega, (k3.alloc k3.size _).trans hb3⟩; clear ho hb3 k1 k2 k3)
          | (go_at_call 52; refine HCn.out.mono ?_; rintro e w2 ⟨rfl, hB⟩; clear HCn))
        go_roundg (N - (p + n))
        case measure => omega
        case rel =>
          obtain ⟨out', k1, k2, k3⟩ := hB3.out
          refine ⟨p + n, by first | rfl | (congr 1; omega) | go_num, by omega, by omega, out', k1, by omega, k3, ?_⟩
          obtain ⟨out2, _, _, _, h4⟩ := HI.out
          exact h4.trans HU.out.1
    · have hpe : p = N := by omega
      have hltz : ¬ (p : Int) < (N : Int) := by omega
      have hge : (N : Int) ≤ (p : Int) := by omega
      have hu : Aside (uV l = true) := by
        obtain ⟨out, _, _, _, h4⟩ := HI.out
        rw [List.drop_eq_nil_of_le (by have := HL.out.1; omega)] at h4
        exact h4
      obtain ⟨z0, z1, zf0, zf1, zl⟩ : Cells2 wr w.heap.size 0 0 := by
        obtain ⟨out, _, _, h3, _⟩ := HI.out
        exact (HL.out.2.2.2.1.below h3 HL.out.2.2.2.2).cells
      have hB : Aside (Below w.heap.size w wr) := by
        obtain ⟨out, _, _, h3, _⟩ := HI.out
        exact HL.out.2.2.1.trans (h3.mono HL.out.2.2.1.size)
      go_wp2_with fail
      refine bodyPost_ret (v := .tuple #[u4, .agg #[.int .i64 0, .int .i64 0]]) ?_ rfl ⟨⟨_, _, by rw [HE.out, hu.out]; rfl⟩, (hB.out.setCell (p := ⟨w.heap.size, 0, none⟩) (Nat.le_refl _) _).setCell (p := ⟨w.heap.size, 1, none⟩) (Nat.le_refl _) _⟩
      simp [results, Tryz.results36, go_sem, z0, z1, zl, zf0, zf1]
/-! ### could a text be of a coding? -/
def mV (l : List Int) : Bool := match textV markV T0 l with | .ok _ => true | .bad _ _ => false

set_option maxHeartbeats 8000000 in
set_option maxRecDepth 100000 in
theorem cIsM (w : World) (hT : Tabs w) (a : Option Addr) (cp : Nat) (l : List Int) (hrow : RowB w a l) (hcp : l.length ≤ cp) (hcp2 : cp ≤ 9223372036854775807) (hn2 : l.length ≤ 2000000) (hlr : ∀ x ∈ l, 0 ≤ x ∧ x ≤ 255) :
    Calls Tryz.prog 28 #[.slice a l.length cp] w fun e w' => e = .returned (.bool (mV l)) ∧ Below w.heap.size w w' := by
  have hc := cText w hT a cp l hrow hcp hcp2 hn2 hlr
  have hbad : ∀ e p, textV markV T0 l = .bad e p → e ≠ 0 := by
    intro e p h
    unfold textV at h
    split at h
    · split at h
      · injection h with h1 h2; omega
      · cases h
    · rename_i h'
      injection h with h1 h2
      rw [← h1]
      exact decodeV_bad h'
  unfold mV
  generalize textV markV T0 l = D at hc hbad ⊢
  obtain ⟨N, hN⟩ : ∃ N, N = l.length := ⟨_, rfl⟩
  rw [← hN] at hc ⊢
  clear hrow hcp hn2 hlr hN hT
  cases D with
  | ok s =>
    have HC : Hid (Calls Tryz.prog 7 #[.slice a N cp] w fun e w' => ∃ v, e = .returned (.tuple #[v, .agg #[.int .i64 0, .int .i64 0]]) ∧ Aside (Below w.heap.size w w')) := hc.mono fun e w' ⟨v, h1, h2, h3⟩ => ⟨v, h1, h3⟩
    clear hc hbad
    go_enter Tryz.func28, Tryz.ntmps28
    go_wp2_with (go_at_call 7; refine HC.out.mono ?_; rintro e w2 ⟨v, rfl, hB⟩; clear HC)
    go_ret
    exact ⟨rfl, hB.out.alloc hB.out.size _⟩
  | bad ec ep =>
    have hec := hbad ec ep rfl
    have hecb : (ec == 0) = false := by simpa using hec
    have HC : Hid (Calls Tryz.prog 7 #[.slice a N cp] w fun e w' => e = .returned (.tuple #[.slice none 0 0, .agg #[.int .i64 ec, .int .i64 ep]]) ∧ Aside (Below w.heap.size w w')) := hc.mono fun e w' h => ⟨h.1, h.2⟩
    clear hc hbad hec
    go_enter Tryz.func28, Tryz.ntmps28
    go_wp2_with (go_at_call 7; refine HC.out.mono ?_; rintro e w2 ⟨rfl, hB⟩; clear HC)
    go_ret
    exact ⟨rfl, hB.out.alloc hB.out.size _⟩

set_option maxHeartbeats 8000000 in
set_option maxRecDepth 100000 in
theorem cIsU (w : World) (a : Option Addr) (cp : Nat) (l : List Int) (hrow : RowB w a l) (hcp : l.length ≤ cp) (hcp2 : cp ≤ 9223372036854775807) (hn2 : l.length ≤ 2000000) :
    Calls Tryz.prog 29 #[.slice a l.length cp] w fun e w' => e = .returned (.bool (uV l)) ∧ Below w.heap.size w w' := by
  have hc := cDecodeU w a cp l hrow hcp hcp2 hn2
  generalize uV l = D at hc ⊢
  obtain ⟨N, hN⟩ : ∃ N, N = l.length := ⟨_, rfl⟩
  rw [← hN] at hc ⊢
  clear hrow hcp hn2 hN
  cases D
  all_goals
    have HC : Hid (Calls Tryz.prog 36 #[.slice a N cp] w fun e w' => ∃ v e1, e = .returned (.tuple #[v, .agg #[.int .i64 _, .int .i64 e1]]) ∧ Aside (Below w.heap.size w w')) := hc.mono fun e w' ⟨v, e1, h1, h2⟩ => ⟨v, e1, h1, h2⟩
    clear hc
    go_enter Tryz.func29, Tryz.ntmps29
    go_wp2_with (go_at_call 36; refine HC.out.mono ?_; rintro e w2 ⟨v, e1, rfl, hB⟩; clear HC)
    go_ret
    exact ⟨rfl, hB.out.alloc hB.out.size _⟩
end Go.Proofs.YtemhfcgkfdklhaaGreatDoor.Look
