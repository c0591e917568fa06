/- Two texts one behind the other, in the parts that the law compares. -/
import Derived.Test.YtemhfcgkfdklhaaGreatDoorRn
set_option linter.unusedVariables false
namespace Go.Proofs.YtemhfcgkfdklhaaGreatDoor.Look
open Go Go.RowKit Go.Shelf Go.Proofs Go.Proofs.YtemhfcgkfdklhaaGreatDoor.Rd

structure Wh (l : List Int) (s : RS) : Prop where
  lo : 0 ≤ s.wh
  hi : s.wh ≤ s.pos
  le : s.pos ≤ l.length
theorem putS_wh (mk : Int → Bool) (s : RS) (r : Int) (n : Nat) (h : 0 ≤ s.wh ∧ s.wh ≤ s.pos) : 0 ≤ (putS mk s r n).wh ∧ (putS mk s r n).wh ≤ (putS mk s r n).pos := by
  unfold putS
  split
  · simp only
    split <;> omega
  · simp only
    omega
theorem Wh.next {mk : Int → Bool} {T : Tab} {b : List Int} {s s' : RS} (h : Wh b s) (hs : s.pos < b.length) (hn : nextV mk T b s = .ok s') : Wh b s' := by
  have hp := nextV_pos hs hn
  obtain ⟨h1, h2, h3⟩ := h
  unfold nextV at hn
  simp only at hn
  split at hn
  · split at hn
    · cases hn
    · injection hn with hn
      rw [← hn] at hp ⊢
      exact ⟨h1, by simp only at hp ⊢; omega, hp.2⟩
  · split at hn
    · split at hn
      · cases hn
      · injection hn with hn
        rw [← hn] at hp ⊢
        have := fun r n => putS_wh mk s r n ⟨h1, h2⟩
        exact ⟨(this _ _).1, (this _ _).2, hp.2⟩
    · split at hn
      · cases hn
      · split at hn
        · cases hn
        · injection hn with hn
          rw [← hn] at hp ⊢
          have := fun r n => putS_wh mk s r n ⟨h1, h2⟩
          exact ⟨(this _ _).1, (this _ _).2, hp.2⟩
theorem nextV_badpos {mk : Int → Bool} {T : Tab} {b : List Int} {s : RS} {e p : Int} (h : Wh b s) (hn : nextV mk T b s = .bad e p) : 0 ≤ p ∧ p ≤ b.length := by
  obtain ⟨h1, h2, h3⟩ := h
  unfold nextV at hn
  simp only at hn
  split at hn
  · split at hn
    · injection hn with a1 a2; omega
    · cases hn
  · split at hn
    · split at hn
      · injection hn with a1 a2; omega
      · cases hn
    · split at hn
      · injection hn with a1 a2; omega
      · split at hn
        · injection hn with a1 a2; omega
        · cases hn
theorem run_badpos {mk : Int → Bool} {T : Tab} {l : List Int} : ∀ n s, l.length - s.pos = n → Wh l s → ∀ e p, run mk T l s = .bad e p → 0 ≤ p ∧ p ≤ l.length := by
  intro n
  induction n using Nat.strongRecOn with
  | _ n ih =>
    intro s hn hw e p hr
    by_cases hl : s.pos < l.length
    · cases hx : nextV mk T l s with
      | bad e' p' =>
        rw [run_bad hl hx] at hr
        injection hr with h1 h2
        have := nextV_badpos hw hx
        omega
      | ok s1 =>
        rw [run_step hl hx] at hr
        have := nextV_pos hl hx
        exact ih (l.length - s1.pos) (by omega) s1 rfl (hw.next hl hx) e p hr
    · rw [run_end (by omega)] at hr
      cases hr
theorem decode_at {mk : Int → Bool} {T : Tab} {l : List Int} {g0 g1 : Int} : 0 ≤ eB (decodeV mk T l g0 g1) ∧ eB (decodeV mk T l g0 g1) ≤ l.length := by
  have hw : Wh l ⟨0, g0, g1, [], [], 0⟩ := ⟨by simp, by simp, by simp⟩
  cases hd : decodeV mk T l g0 g1 with
  | ok s => simp [eB]
  | bad e p =>
    show 0 ≤ p ∧ p ≤ l.length
    unfold decodeV at hd
    split at hd
    · unfold endV at hd
      split at hd
      · rename_i s hr
        split at hd
        · injection hd with a1 a2
          have := (run_ind (Wh l) (fun s s' hs hp hn => hs.next hp hn) _ _ _ rfl hw hr).1
          have h1 := this.lo
          have h2 := this.hi
          have h3 := this.le
          omega
        · cases hd
      · rename_i hr
        injection hd with a1 a2
        have := run_badpos _ _ rfl hw _ _ hr
        omega
    · injection hd with a1 a2; omega
theorem decode_len {mk : Int → Bool} {T : Tab} {l : List Int} {g0 g1 : Int} : (outV (decodeV mk T l g0 g1)).length ≤ l.length := by
  cases hd : decodeV mk T l g0 g1 with
  | bad e p => simp [outV]
  | ok s =>
    show s.out.length ≤ l.length
    unfold decodeV at hd
    split at hd
    · rename_i hm
      unfold endV at hd
      split at hd
      · rename_i s1 hr
        split at hd
        · cases hd
        · injection hd with a1
          subst a1
          have hG : Good l ⟨0, g0, g1, [], [], 0⟩ := by
            have := of_decide_eq_true hm
            exact ⟨⟨this.1.1, this.1.2, this.2.1, this.2.2⟩, by simp, by simp⟩
          have := (run_ind (Good l) (fun s s' hs hp hn => hs.next hp hn) _ _ _ rfl hG hr).1
          have h1 := this.fits
          have h2 := this.le
          omega
      · cases hd
    · cases hd
theorem ok_of {D : Step} {mk : Int → Bool} {T : Tab} {l : List Int} {g0 g1 : Int} (hD : D = decodeV mk T l g0 g1) (h : eA D = 0) : ∃ s, D = .ok s := by
  cases D with
  | ok s => exact ⟨s, rfl⟩
  | bad e p => exact absurd h (decodeV_bad hD.symm)
theorem joins_parts {mk : Int → Bool} {T : Tab} {a b : List Int} {g0 g1 : Int} {D1 D2 D3 : Step} (h1 : D1 = decodeV mk T a g0 g1) (h2 : D2 = decodeV mk T b (gA D1) (gB D1)) (h3 : D3 = decodeV mk T (a ++ b) g0 g1) (h : eA D1 = 0) :
    eA D3 = eA D2 ∧ (eA D2 ≠ 0 → eB D3 = a.length + eB D2) ∧ (eA D2 = 0 → gA D3 = gA D2 ∧ gB D3 = gB D2 ∧ outV D3 = outV D1 ++ outV D2) := by
  obtain ⟨s, hs⟩ := ok_of h1 h
  have hj := decode_joins (b := b) (h1.symm.trans hs)
  rw [hs] at h2 ⊢
  rw [show gA (.ok s) = s.g0 from rfl, show gB (.ok s) = s.g1 from rfl] at h2
  rw [← h2, ← h3] at hj
  cases D2 with
  | bad e p =>
    cases D3 with
    | ok t => exact hj.elim
    | bad e' p' =>
      obtain ⟨rfl, rfl⟩ := hj
      exact ⟨rfl, fun _ => rfl, fun h0 => absurd h0 (decodeV_bad h2.symm)⟩
  | ok t =>
    cases D3 with
    | bad e' p' => exact hj.elim
    | ok u => exact ⟨rfl, fun h0 => absurd rfl h0, fun _ => ⟨hj.g0, hj.g1, hj.out⟩⟩
end Go.Proofs.YtemhfcgkfdklhaaGreatDoor.Look
