/- The law's 'small'. -/
import Derived.Test.YtemhfcgkfdklhaaGreatDoorDet6
set_option linter.all false
namespace Go.Proofs.YtemhfcgkfdklhaaGreatDoor.Look
open Go Go.RowKit Go.Shelf Go.Proofs Go.Proofs.YtemhfcgkfdklhaaGreatDoor.Rd

def byteS (s : ByteArray) (i : Nat) : Int := if h : i < s.size then ((s[i]'h).toNat : Int) else 0
theorem byteS_at {s : ByteArray} {i : Nat} (h : i < s.size) : byteS s i = ((s[i]'h).toNat : Int) := dif_pos h
/-- Is it a leader, whatever its numbers are? -/
def soundV (s : ByteArray) : Bool := decide (s.size = 24) && (List.range 24).all fun i => atV i (byteS s i)
def codingV (s : ByteArray) : Int := if soundV s = true then (if byteS s 9 = 97 then 2 else 1) else 0
theorem range_all {p : Nat → Bool} {n k : Nat} (h : (List.range k).all p = true) (hk : p k = true) : (List.range (k + 1)).all p = true := by
  rw [List.range_succ, List.all_append, h]
  simp [hk]
theorem range_not {p : Nat → Bool} {n k : Nat} (hk : k < n) (h : p k = false) : (List.range n).all p = false :=
  Bool.eq_false_iff.2 fun hall => by
    have := List.all_eq_true.1 hall k (List.mem_range.2 hk)
    rw [h] at this
    cases this

set_option maxHeartbeats 8000000 in
set_option maxRecDepth 100000 in
theorem cSoundR (s : ByteArray) (w : World) : Calls Tryz.prog 12 #[.string s] w fun e w' => e = .returned (.bool (soundV s)) ∧ w = w' := by
  obtain ⟨res, hres⟩ : ∃ r, r = soundV s := ⟨_, rfl⟩
  rw [← hres]
  have HR : Aside (res = soundV s) := hres
  clear hres
  by_cases hs : s.size = 24
  case neg =>
    have hb : ((s.size : Int) == 24) = false := by simp; omega
    have hz : ¬ (s.size : Int) = 24 := by omega
    have hr : Aside (res = false) := by
      show res = false
      rw [HR.out]; unfold soundV; rw [decide_eq_false hs]; rfl
    clear hs
    go_enter Tryz.func12, Tryz.ntmps12
    go_wp2_with fail
    go_ret
    exact ⟨by rw [hr.out]; rfl, rfl⟩
  case pos =>
    go_enter Tryz.func12, Tryz.ntmps12
    go_wp2_with fail
    go_loopg [3] 24 (fun g v3 wr => ∃ k : Nat, v3 = .int .i64 (k : Int) ∧ k ≤ 24 ∧ 24 - k ≤ g ∧ wr = w ∧ Aside (((List.range k).all fun i => atV i (byteS s i)) = true))
    case atStart => exact ⟨0, rfl, by omega, by omega, rfl, rfl⟩
    case round =>
      obtain ⟨k, rfl, hk, hg1, rfl, HI⟩ := hrel
      by_cases hlt : k < 24
      · have hltz : (k : Int) < 24 := by omega
        have hk0 : (0 : Int) ≤ (k : Int) := by omega
        have hks : k < s.size := by omega
        have hC := fun X => cAtR k hlt ((s[k]'hks).toNat : Int) X
        cases hp : atV k ((s[k]'hks).toNat : Int) with
        | true =>
          rw [hp] at hC
          have HP : Aside (atV k (byteS s k) = true) := by
            show atV k (byteS s k) = true
            rw [byteS_at hks]; exact hp
          have HC := Lib.hid hC
          clear hp hC
          go_wp2_with (go_at_call 22; refine (HC.out _).mono ?_; rintro _ w9 ⟨rfl, rfl⟩)
          go_roundg (24 - (k + 1))
          case measure => omega
          case rel => exact ⟨k + 1, by first | rfl | go_num, by omega, by omega, rfl, range_all (n := 0) HI.out HP.out⟩
        | false =>
          rw [hp] at hC
          have hr : Aside (res = false) := by
            show res = false
            rw [HR.out]; unfold soundV
            rw [range_not hlt (by rw [byteS_at hks]; exact hp), Bool.and_false]
          have HC := Lib.hid hC
          clear hp hC
          go_wp2_with (go_at_call 22; refine (HC.out _).mono ?_; rintro _ w9 ⟨rfl, rfl⟩)
          go_ret
          exact ⟨by rw [hr.out]; rfl, rfl⟩
      · have hk24 : k = 24 := by omega
        subst hk24
        have hr : Aside (res = true) := by
          show res = true
          rw [HR.out]; unfold soundV
          rw [HI.out, decide_eq_true hs]; rfl
        have hltz : ¬ ((24 : Nat) : Int) < 24 := by decide
        go_wp2_with fail
        go_ret
        exact ⟨by rw [hr.out]; rfl, rfl⟩

set_option maxHeartbeats 8000000 in
set_option maxRecDepth 100000 in
theorem cSoundL (s : ByteArray) (hz : s.size ≤ 1000000000000000) (w : World) : Calls Tryz.prog 37 #[.string s] w fun e w' => e = .returned (.bool (soundV s)) ∧ w = w' := by
  obtain ⟨res, hres⟩ : ∃ r, r = soundV s := ⟨_, rfl⟩
  rw [← hres]
  have HR : Aside (res = soundV s) := hres
  clear hres
  obtain ⟨N, hN⟩ : ∃ N, N = s.size := ⟨_, rfl⟩
  have HN : Aside (N = s.size) := hN
  go_enter Tryz.func37, Tryz.ntmps37
  go_wp2_with fail
  go_loopg [3, 6] s.size (fun g v3 v6 wr => ∃ k : Nat, v6 = .int .i64 (k : Int) ∧ k ≤ s.size ∧ s.size - k ≤ g ∧ wr = w ∧ Aside (∀ j, j < k → j < 24 → atV j (byteS s j) = true))
  case atStart => exact ⟨0, rfl, by omega, by omega, rfl, fun j hj => by omega⟩
  case round =>
    obtain ⟨k, rfl, hk, hg1, rfl, HI⟩ := hrel
    by_cases hlt : k < s.size
    · have hltz : (k : Int) < (s.size : Int) := by omega
      have hk0 : (0 : Int) ≤ (k : Int) := by omega
      by_cases h24 : k < 24
      · have h24z : (k : Int) < 24 := by omega
        have hC := fun X => cGoodL k h24 ((s[k]'hlt).toNat : Int) X
        cases hp : atV k ((s[k]'hlt).toNat : Int) with
        | true =>
          rw [hp] at hC
          have HP : Aside (atV k (byteS s k) = true) := by
            show atV k (byteS s k) = true
            rw [byteS_at hlt]; exact hp
          have HC := Lib.hid hC
          clear hp hC hN
          go_wp2_with (go_at_call 53; refine (HC.out _).mono ?_; rintro _ w9 ⟨rfl, rfl⟩)
          go_roundg (s.size - (k + 1))
          case measure => omega
          case rel => exact ⟨k + 1, by first | rfl | go_num, by omega, by omega, rfl, fun j hj h2 => by
            by_cases hjk : j = k
            · rw [hjk]; exact HP.out
            · exact HI.out j (by omega) h2⟩
        | false =>
          rw [hp] at hC
          have hr : Aside (res = false) := by
            show res = false
            rw [HR.out]; unfold soundV
            rw [range_not h24 (by rw [byteS_at hlt]; exact hp), Bool.and_false]
          have HC := Lib.hid hC
          clear hp hC hN
          go_wp2_with (go_at_call 53; refine (HC.out _).mono ?_; rintro _ w9 ⟨rfl, rfl⟩)
          go_ret
          exact ⟨by rw [hr.out]; rfl, rfl⟩
      · have h24z : ¬ (k : Int) < 24 := by omega
        have h24d : decide ((k : Int) < 24) = false := decide_eq_false h24z
        clear hN
        go_wp2_with fail
        go_roundg (s.size - (k + 1))
        case measure => omega
        case rel => exact ⟨k + 1, by first | rfl | go_num, by omega, by omega, rfl, fun j hj h2 => HI.out j (by omega) h2⟩
    · have hkN : k = s.size := by omega
      have hltz : ¬ (k : Int) < (s.size : Int) := by omega
      have hge : (s.size : Int) ≤ (k : Int) := by omega
      by_cases hs : s.size = 24
      · have hr : Aside (res = true) := by
          show res = true
          rw [HR.out]; unfold soundV
          rw [decide_eq_true hs, Bool.true_and]
          exact List.all_eq_true.2 fun j hj => HI.out j (by have := List.mem_range.1 hj; omega) (List.mem_range.1 hj)
        clear hN hkN
        go_wp2_with fail
        go_ret
        exact ⟨by rw [hr.out]; first | rfl | simp [hs], rfl⟩
      · have hr : Aside (res = false) := by
          show res = false
          rw [HR.out]; unfold soundV; rw [decide_eq_false hs]; rfl
        have hb : ((s.size : Int) == 24) = false := by simp; omega
        clear hN hkN
        go_wp2_with fail
        go_ret
        exact ⟨by rw [hr.out]; first | rfl | simp [hs], rfl⟩

set_option maxHeartbeats 8000000 in
set_option maxRecDepth 100000 in
theorem cCodingR (s : ByteArray) (w : World) : Calls Tryz.prog 16 #[.string s] w fun e w' => e = .returned (.int .i64 (codingV s)) ∧ w = w' := by
  have hC := fun X => cSoundR s X
  unfold codingV
  cases hs : soundV s with
  | false =>
    rw [hs] at hC
    rw [if_neg (by decide)]
    have HC := Lib.hid hC
    clear hs hC
    go_enter Tryz.func16, Tryz.ntmps16
    go_wp2_with (go_at_call 12; refine (HC.out _).mono ?_; rintro _ w9 ⟨rfl, rfl⟩)
    go_ret
    exact ⟨rfl, rfl⟩
  | true =>
    rw [if_pos rfl]
    have hz : s.size = 24 := by
      unfold soundV at hs
      rw [Bool.and_eq_true] at hs
      exact of_decide_eq_true hs.1
    rw [hs] at hC
    have h9 : 9 < s.size := by omega
    have h9z : (9 : Int) < (s.size : Int) := by omega
    rw [byteS_at h9]
    have HC := Lib.hid hC
    clear hs hC
    by_cases h97 : ((s[9]'h9).toNat : Int) = 97
    · rw [if_pos h97]
      have h97b : (((s[9]'h9).toNat : Int) == 97) = true := by simpa using h97
      go_enter Tryz.func16, Tryz.ntmps16
      go_wp2_with (go_at_call 12; refine (HC.out _).mono ?_; rintro _ w9 ⟨rfl, rfl⟩)
      go_ret
      exact ⟨rfl, rfl⟩
    · rw [if_neg h97]
      have h97b : (((s[9]'h9).toNat : Int) == 97) = false := by simpa using h97
      go_enter Tryz.func16, Tryz.ntmps16
      go_wp2_with (go_at_call 12; refine (HC.out _).mono ?_; rintro _ w9 ⟨rfl, rfl⟩)
      go_ret
      exact ⟨rfl, rfl⟩

set_option maxHeartbeats 8000000 in
set_option maxRecDepth 100000 in
theorem cCodingL (s : ByteArray) (hsz : s.size ≤ 1000000000000000) (w : World) : Calls Tryz.prog 30 #[.string s] w fun e w' => e = .returned (.int .i64 (codingV s)) ∧ w = w' := by
  have hC := fun X => cSoundL s hsz X
  unfold codingV
  cases hs : soundV s with
  | false =>
    rw [hs] at hC
    rw [if_neg (by decide)]
    have HC := Lib.hid hC
    clear hs hC
    go_enter Tryz.func30, Tryz.ntmps30
    go_wp2_with (go_at_call 37; refine (HC.out _).mono ?_; rintro _ w9 ⟨rfl, rfl⟩)
    go_ret
    exact ⟨rfl, rfl⟩
  | true =>
    rw [if_pos rfl]
    have hz : s.size = 24 := by
      unfold soundV at hs
      rw [Bool.and_eq_true] at hs
      exact of_decide_eq_true hs.1
    rw [hs] at hC
    have h9 : 9 < s.size := by omega
    have h9z : (9 : Int) < (s.size : Int) := by omega
    rw [byteS_at h9]
    have HC := Lib.hid hC
    clear hs hC
    by_cases h97 : ((s[9]'h9).toNat : Int) = 97
    · rw [if_pos h97]
      have h97b : (((s[9]'h9).toNat : Int) == 97) = true := by simpa using h97
      go_enter Tryz.func30, Tryz.ntmps30
      go_wp2_with (go_at_call 37; refine (HC.out _).mono ?_; rintro _ w9 ⟨rfl, rfl⟩)
      go_ret
      exact ⟨rfl, rfl⟩
    · rw [if_neg h97]
      have h97b : (((s[9]'h9).toNat : Int) == 97) = false := by simpa using h97
      go_enter Tryz.func30, Tryz.ntmps30
      go_wp2_with (go_at_call 37; refine (HC.out _).mono ?_; rintro _ w9 ⟨rfl, rfl⟩)
      go_ret
      exact ⟨rfl, rfl⟩
end Go.Proofs.YtemhfcgkfdklhaaGreatDoor.Look
set_option linter.all false
namespace Go.Proofs.YtemhfcgkfdklhaaGreatDoor.Look
open Go Go.RowKit Go.Shelf Go.Proofs Go.Proofs.YtemhfcgkfdklhaaGreatDoor.Rd

/-- Which coding it is: told, and what the texts may be. -/
def detV (told : Int) (a b : Bool) : Int × Int :=
  if told = 0 then (0, 10)
  else if (if told = 1 then a else b) = true then (told, 0)
  else if (if told = 1 then b else a) = true then (3 - told, 15)
  else (0, 4)
theorem codingV_cases (s : ByteArray) : codingV s = 0 ∨ codingV s = 1 ∨ codingV s = 2 := by
  unfold codingV
  split
  · split
    · exact .inr (.inr rfl)
    · exact .inr (.inl rfl)
  · exact .inl rfl

set_option maxHeartbeats 8000000 in
set_option maxRecDepth 100000 in
theorem cDetect (w : World) (hT : Tabs w) (lead : ByteArray) (hz : lead.size ≤ 1000000000000000) (fv : Value) (fs : List Fld) (h : Recs w fv fs) :
    Calls Tryz.prog 15 #[.agg #[.string lead, fv]] w fun e w' => e = .returned (.tuple #[.int .i64 (detV (codingV lead) (evM fs) (evU fs)).1, .int .i64 (detV (codingV lead) (evM fs) (evU fs)).2]) ∧ Below w.heap.size w w' := by
  have hC := fun X => cCodingL lead hz X
  obtain ⟨W0, hW0⟩ : ∃ W0, W0 = w.alloc (.cells #[.string lead, fv] 36) := ⟨_, rfl⟩
  have hb0 : Below w.heap.size w W0 := by rw [hW0]; exact (Below.refl _ w).alloc (Nat.le_refl _) _
  obtain ⟨a, ha⟩ : ∃ r, r = evM fs := ⟨_, rfl⟩
  obtain ⟨b, hb⟩ : ∃ r, r = evU fs := ⟨_, rfl⟩
  have hE : Calls Tryz.prog 14 #[.agg #[.string lead, fv]] W0 fun e w' => e = .returned (.tuple #[.bool a, .bool b]) ∧ Below W0.heap.size W0 w' := by
    rw [ha, hb]
    exact cEvidence W0 (hT.below hb0) lead fv fs (h.below hb0)
  rw [← ha, ← hb]
  have HB : Aside (Below w.heap.size w W0) := hb0
  obtain ⟨h1, h2, h3⟩ := h
  obtain ⟨fa, fc, rfl, _⟩ := h1
  obtain ⟨M, hM⟩ : ∃ M, M = fs.length := ⟨_, rfl⟩
  rw [← hM] at hE hW0 ⊢
  clear h2 h3 ha hb hT hb0 hM
  rw [hW0] at hE
  replace hW0 := Lib.hid hW0
  have HE := Lib.hid hE
  clear hE
  have hcc := codingV_cases lead
  generalize codingV lead = t at hC hcc ⊢
  have HC := Lib.hid hC
  clear hC
  rcases hcc with rfl | rfl | rfl
  · go_enter Tryz.func15, Tryz.ntmps15
    go_wp2_with (go_at_call 30; refine (HC.out _).mono ?_; rintro _ w9 ⟨rfl, rfl⟩)
    go_ret2
    refine ⟨rfl, ?_⟩
    rw [← hW0.out]; exact HB.out
  · cases a <;> cases b
    all_goals
      go_enter Tryz.func15, Tryz.ntmps15
      go_wp2_with (first
        | (go_at_call 14; refine HE.out.mono ?_; rintro e w2 ⟨rfl, hb2⟩; have hB2 : Aside (Below w.heap.size w w2) := (by rw [← hW0.out] at hb2; exact HB.out.trans (hb2.mono HB.out.size)); clear HE hb2)
        | (go_at_call 30; refine (HC.out _).mono ?_; rintro _ w9 ⟨rfl, rfl⟩))
      go_ret2
      exact ⟨rfl, below_alloc hB2.out _⟩
  · cases a <;> cases b
    all_goals
      go_enter Tryz.func15, Tryz.ntmps15
      go_wp2_with (first
        | (go_at_call 14; refine HE.out.mono ?_; rintro e w2 ⟨rfl, hb2⟩; have hB2 : Aside (Below w.heap.size w w2) := (by rw [← hW0.out] at hb2; exact HB.out.trans (hb2.mono HB.out.size)); clear HE hb2)
        | (go_at_call 30; refine (HC.out _).mono ?_; rintro _ w9 ⟨rfl, rfl⟩))
      go_ret2
      exact ⟨rfl, below_alloc hB2.out _⟩
def leadS : ByteArray := ⟨#[48, 48, 48, 48, 48, 110, 97, 109, 32, 97, 50, 50, 48, 48, 48, 48, 48, 32, 97, 32, 52, 53, 48, 48]⟩
theorem codingS : codingV leadS = 2 := by decide +kernel

set_option maxHeartbeats 8000000 in
set_option maxRecDepth 100000 in
theorem answers24 (w : World) (hT : Tabs w) : Calls Tryz.prog 13 #[] w fun e w' => e = .returned (.bool true) ∧ Below w.heap.size w w' := by
  have hc := cDetect w hT leadS (by decide) (.slice none 0 0) [] ⟨⟨none, 0, rfl, fun h => absurd rfl h⟩, Nat.zero_le _, fun f hf => by cases hf⟩
  rw [codingS] at hc
  have HC : Hid (Calls Tryz.prog 15 #[.agg #[.string ⟨#[48, 48, 48, 48, 48, 110, 97, 109, 32, 97, 50, 50, 48, 48, 48, 48, 48, 32, 97, 32, 52, 53, 48, 48]⟩, .slice none 0 0]] w fun e w' => e = .returned (.tuple #[.int .i64 2, .int .i64 0]) ∧ Aside (Below w.heap.size w w')) := hc
  clear hc hT
  go_enter Tryz.func13, Tryz.ntmps13
  go_wp2_with (go_at_call 15; refine HC.out.mono ?_; rintro e w2 ⟨rfl, hb2⟩; clear HC)
  go_ret
  exact ⟨rfl, hb2.out⟩
end Go.Proofs.YtemhfcgkfdklhaaGreatDoor.Look
set_option linter.all false
namespace Go.Proofs.YtemhfcgkfdklhaaGreatDoor.Look
open Go Go.RowKit Go.Shelf Go.Proofs Go.Proofs.YtemhfcgkfdklhaaGreatDoor.Rd

def subsN : Nat → List (List Int) → Nat
  | n, [] => n
  | n, l :: t => if n < 3000 then subsN (n + 2 + l.length) t else n
def fldsN : Nat → List Fld → Nat
  | n, [] => n
  | n, f :: t => if n < 3000 then fldsN (subsN (n + f.text.length) f.subs) t else n
/-- Is a record not too large? -/
def smallV (lead : ByteArray) (fs : List Fld) : Bool := decide (fldsN (lead.size + 20 * fs.length) fs < 3000)
theorem subsN_ge : ∀ (l : List (List Int)) (n : Nat), n ≤ subsN n l
  | [], n => Nat.le_refl _
  | x :: t, n => by
    unfold subsN
    split
    · have := subsN_ge t (n + 2 + x.length); omega
    · exact Nat.le_refl _
theorem fldsN_ge : ∀ (l : List Fld) (n : Nat), n ≤ fldsN n l
  | [], n => Nat.le_refl _
  | x :: t, n => by
    unfold fldsN
    split
    · have h1 := fldsN_ge t (subsN (n + x.text.length) x.subs)
      have h2 := subsN_ge x.subs (n + x.text.length)
      omega
    · exact Nat.le_refl _
theorem subsN_big {n : Nat} (h : ¬ n < 3000) : ∀ l, subsN n l = n
  | [] => rfl
  | x :: t => by unfold subsN; exact if_neg h
theorem fldsN_big {n : Nat} (h : ¬ n < 3000) : ∀ l, fldsN n l = n
  | [] => rfl
  | x :: t => by unfold fldsN; exact if_neg h
theorem subsN_small : ∀ (l : List (List Int)) (n : Nat), subsN n l < 3000 → n + 2 * l.length < 3000 ∧ ∀ x ∈ l, x.length < 3000
  | [], n, h => ⟨by simpa [subsN] using h, fun x hx => by cases hx⟩
  | x :: t, n, h => by
    unfold subsN at h
    split at h
    · obtain ⟨h1, h2⟩ := subsN_small t _ h
      refine ⟨by rw [List.length_cons]; omega, fun y hy => ?_⟩
      rcases List.mem_cons.1 hy with rfl | hy
      · omega
      · exact h2 y hy
    · omega
theorem fldsN_small : ∀ (l : List Fld) (n : Nat), fldsN n l < 3000 → ∀ f ∈ l, f.text.length < 3000 ∧ f.subs.length < 3000 ∧ ∀ x ∈ f.subs, x.length < 3000
  | [], n, h => fun f hf => by cases hf
  | g :: t, n, h => by
    unfold fldsN at h
    split at h
    · have h3 := fldsN_ge t (subsN (n + g.text.length) g.subs)
      obtain ⟨h1, h2⟩ := subsN_small g.subs (n + g.text.length) (by omega)
      intro f hf
      rcases List.mem_cons.1 hf with rfl | hf
      · exact ⟨by omega, by omega, h2⟩
      · exact fldsN_small t _ h f hf
    · omega
theorem small_all {lead : ByteArray} {fs : List Fld} (h : smallV lead fs = true) : lead.size < 3000 ∧ fs.length < 3000 ∧ ∀ f ∈ fs, f.text.length < 3000 ∧ f.subs.length < 3000 ∧ ∀ x ∈ f.subs, x.length < 3000 := by
  have h1 := of_decide_eq_true h
  have h2 := fldsN_ge fs (lead.size + 20 * fs.length)
  exact ⟨by omega, by omega, fldsN_small fs _ h1⟩
def Fits (n : Nat) : Prop := n ≤ 140737488355328
structure FitsR (lead : ByteArray) (fs : List Fld) : Prop where
  lead : Fits lead.size
  len : Fits fs.length
  flds : ∀ f ∈ fs, Fits f.text.length ∧ Fits f.subs.length ∧ ∀ x ∈ f.subs, Fits x.length

set_option maxHeartbeats 8000000 in
set_option maxRecDepth 100000 in
theorem cSmall24 (w : World) (lead : ByteArray) (fv : Value) (fs : List Fld) (h : FieldsAt w fv fs) (hf : FitsR lead fs) :
    Calls Tryz.prog 11 #[.agg #[.string lead, fv]] w fun e w' => e = .returned (.bool (smallV lead fs)) ∧ Below w.heap.size w w' := by
  obtain ⟨a, c, rfl, h2⟩ := h
  obtain ⟨res, hres⟩ : ∃ r, r = smallV lead fs := ⟨_, rfl⟩
  rw [← hres]
  have HR : Aside (res = smallV lead fs) := hres
  clear hres
  obtain ⟨M, hM⟩ : ∃ M, M = fs.length := ⟨_, rfl⟩
  obtain ⟨L, hL⟩ : ∃ L, L = lead.size := ⟨_, rfl⟩
  have hMb : (M : Int) ≤ 140737488355328 := by have := hf.len; unfold Fits at this; omega
  have hLb : (lead.size : Int) ≤ 140737488355328 := by have := hf.lead; unfold Fits at this; omega
  rw [← hM]
  obtain ⟨W0, hW0⟩ : ∃ W0, W0 = w.alloc (.cells #[.string lead, .slice a M c] 36) := ⟨_, rfl⟩
  have hb0 : Below w.heap.size w W0 := by rw [hW0]; exact (Below.refl _ w).alloc (Nat.le_refl _) _
  have hx : W0.heap[w.heap.size]? = some (.cells #[.string lead, .slice a M c] 36) := by rw [hW0]; exact (MapKept.heap_alloc w _).1
  have r1 : W0.cell? ⟨w.heap.size, 1, none⟩ = some (.slice a M c) := by
    unfold World.cell?
    simp only [hx]
    rfl
  have HF : Aside (M = fs.length ∧ FitsR lead fs ∧ Below w.heap.size w W0 ∧ (fs ≠ [] → ∃ b off, a = some ⟨b, off, none⟩ ∧ b < w.heap.size ∧ ∀ k f, fs[k]? = some f → ∃ vt i0 i1 vs, w.cell? ⟨b, off + k * 5, none⟩ = some (.string f.tag) ∧ w.cell? ⟨b, off + k * 5 + 1, none⟩ = some vt ∧ w.cell? ⟨b, off + k * 5 + 2, none⟩ = some (.int .u8 i0) ∧ w.cell? ⟨b, off + k * 5 + 3, none⟩ = some (.int .u8 i1) ∧ w.cell? ⟨b, off + k * 5 + 4, none⟩ = some vs ∧ TextV w vt f.text ∧ SubsAt w vs f.subs)) := ⟨hM, hf, hb0, h2⟩
  have hwr1 : IntKind.i64.wrap (20 * (M : Int)) = 20 * (M : Int) := by rw [IntKind.wrap_i64]; omega
  clear hM hL hf h2 hx hb0
  go_enter Tryz.func11, Tryz.ntmps11
  go_wp2_with fail
  rw [← hW0]
  replace hW0 := Lib.hid hW0
  go_loopg [3, 4, 5] M (fun g v3 v4 v5 wr => ∃ (i n : Nat) (z : Int), v4 = .int .i64 (i : Int) ∧ v3 = .int .i64 z ∧ z = (n : Int) ∧ i ≤ M ∧ M - i ≤ g ∧ n ≤ 1000000000000000000 ∧ wr = W0 ∧ Aside (fldsN (lead.size + 20 * fs.length) fs = fldsN n (fs.drop i)))
  case atStart => exact ⟨0, lead.size + 20 * M, _, rfl, rfl, by omega, by omega, by omega, by omega, rfl, Lib.hid (by rw [HF.out.1, List.drop_zero])⟩
  case round =>
    obtain ⟨i, n, z, rfl, rfl, rfl, hi, hg1, hnb, rfl, HI⟩ := hrel
    by_cases hlt : i < M
    · have hltz : (i : Int) < (M : Int) := by omega
      have hi0 : (0 : Int) ≤ (i : Int) := by omega
      by_cases hn3 : n < 3000
      · have hn3z : (n : Int) < 3000 := by omega
        have hkl : i < fs.length := by have := HF.out.1; omega
        obtain ⟨b, off, rfl, hb, hcs⟩ := HF.out.2.2.2 (fun e => by rw [e] at hkl; simp at hkl)
        obtain ⟨vt, i0, i1, vs, k1, k2, k3, k4, k5, k6, k7⟩ := hcs i fs[i] (List.getElem?_eq_getElem hkl)
        obtain ⟨f, hfe⟩ : ∃ f, f = fs[i] := ⟨_, rfl⟩
        rw [← hfe] at k6 k7
        have hmem : f ∈ fs := by rw [hfe]; exact List.getElem_mem hkl
        have hdr : fs.drop i = f :: fs.drop (i + 1) := by rw [hfe]; exact List.drop_eq_getElem_cons hkl
        have hcw : ∀ o, wr.cell? ⟨b, o, none⟩ = w.cell? ⟨b, o, none⟩ := fun o => HF.out.2.2.1.cell (p := ⟨b, o, none⟩) hb
        have d1 := (hcw _).trans k2
        have d4 := (hcw _).trans k5
        obtain ⟨ta, tc, rfl, _⟩ := k6
        obtain ⟨sa, sc, rfl, hsub⟩ := k7
        have hfit := HF.out.2.1.flds f hmem
        obtain ⟨T, hT'⟩ : ∃ z, z = f.text.length := ⟨_, rfl⟩
        obtain ⟨S, hS'⟩ : ∃ z, z = f.subs.length := ⟨_, rfl⟩
        rw [← hT'] at d1
        rw [← hS'] at d4
        have hTb : (T : Int) ≤ 140737488355328 := by have := hfit.1; unfold Fits at this; omega
        have hSb : (S : Int) ≤ 140737488355328 := by have := hfit.2.1; unfold Fits at this; omega
        have HL : Aside (fldsN n (fs.drop i) = fldsN (subsN (n + T) f.subs) (fs.drop (i + 1)) ∧ S = f.subs.length ∧ (∀ x ∈ f.subs, Fits x.length) ∧ (f.subs ≠ [] → ∃ b off, sa = some ⟨b, off, none⟩ ∧ b < w.heap.size ∧ ∀ k l, f.subs[k]? = some l → ∃ code u, w.cell? ⟨b, off + k * 2, none⟩ = some (.int .u8 code) ∧ w.cell? ⟨b, off + (k * 2 + 1), none⟩ = some u ∧ TextV w u l)) := by
          refine ⟨?_, hS', hfit.2.2, hsub⟩
          rw [hdr, hT']
          show (if n < 3000 then _ else _) = _
          rw [if_pos hn3]
        clear hcw k1 k2 k3 k4 k5 hfe hmem hdr hcs hkl hT' hS' hsub hfit hn3
        go_wp2_with fail
        go_loopg [3, 5] S (fun g2 v3 v5 w2 => ∃ (k n' : Nat) (z : Int), v5 = .int .i64 (k : Int) ∧ v3 = .int .i64 z ∧ z = (n' : Int) ∧ k ≤ S ∧ S - k ≤ g2 ∧ n' ≤ 100000000000000000 ∧ w2 = wr ∧ Aside (subsN (n + T) f.subs = subsN n' (f.subs.drop k)))
        case atStart => exact ⟨0, n + T, _, rfl, rfl, by omega, by omega, by omega, by omega, rfl, Lib.hid (by rw [List.drop_zero])⟩
        case round =>
          obtain ⟨k, n', z, rfl, rfl, rfl, hk, hg2, hnb2, rfl, HI2⟩ := hrel
          by_cases hk2 : k < S
          · have hk2z : (k : Int) < (S : Int) := by omega
            have hk0 : (0 : Int) ≤ (k : Int) := by omega
            by_cases hn3 : n' < 3000
            · have hn3z' : (n' : Int) < 3000 := by omega
              have hkl : k < f.subs.length := by have := HL.out.2.1; omega
              obtain ⟨b2, off2, rfl, hb2, hcs2⟩ := HL.out.2.2.2 (fun e => by rw [e] at hkl; simp at hkl)
              obtain ⟨code, u, _, c1, hu⟩ := hcs2 k f.subs[k] (List.getElem?_eq_getElem hkl)
              have e1 := (HF.out.2.2.1.cell (p := ⟨b2, off2 + (k * 2 + 1), none⟩) hb2).trans c1
              rw [← Nat.add_assoc] at e1
              obtain ⟨ua, uc, rfl, hu2⟩ := hu
              obtain ⟨NL, hNL⟩ : ∃ z, z = (f.subs[k]).length := ⟨_, rfl⟩
              rw [← hNL] at e1
              have hNb : (NL : Int) ≤ 140737488355328 := by have := HL.out.2.2.1 f.subs[k] (List.getElem_mem hkl); unfold Fits at this; omega
              have HS2 : Aside (subsN n' (f.subs.drop k) = subsN (n' + 2 + NL) (f.subs.drop (k + 1))) := by
                show subsN n' (f.subs.drop k) = _
                rw [List.drop_eq_getElem_cons hkl, hNL]
                show (if n' < 3000 then _ else _) = _
                rw [if_pos hn3]
              clear c1 hcs2 hu2 hNL hkl hn3
              go_wp2_with fail
              go_roundg (S - (k + 1))
              case measure => omega
              case rel => exact ⟨k + 1, n' + 2 + NL, _, by first | rfl | go_num, rfl, by omega, by omega, by omega, by omega, rfl, Lib.hid (by rw [HI2.out, HS2.out])⟩
            · have hn3z' : ¬ (n' : Int) < 3000 := by omega
              have hn3d : decide ((n' : Int) < 3000) = false := decide_eq_false hn3z'
              go_wp2_with fail
              go_roundg (M - (i + 1))
              case measure => omega
              case rel => exact ⟨i + 1, n', _, by first | rfl | go_num, rfl, rfl, by omega, by omega, by omega, rfl, Lib.hid (by rw [HI.out, HL.out.1, HI2.out, subsN_big hn3])⟩
          · have hk2z : ¬ (k : Int) < (S : Int) := by omega
            have hk2d : decide ((k : Int) < (S : Int)) = false := decide_eq_false hk2z
            have hdn : Aside (f.subs.drop k = []) := List.drop_eq_nil_of_le (by have := HL.out.2.1; omega)
            go_wp2_with fail
            go_roundg (M - (i + 1))
            case measure => omega
            case rel => exact ⟨i + 1, n', _, by first | rfl | go_num, rfl, rfl, by omega, by omega, by omega, rfl, Lib.hid (by rw [HI.out, HL.out.1, HI2.out, hdn.out]; rfl)⟩
      · have hn3z : ¬ (n : Int) < 3000 := by omega
        have hn3d : decide ((n : Int) < 3000) = false := decide_eq_false hn3z
        have hr : Aside (res = false) := by
          show res = false
          rw [HR.out]; unfold smallV
          rw [HI.out, fldsN_big hn3]
          exact decide_eq_false hn3
        go_wp2_with fail
        go_ret
        exact ⟨by rw [hr.out]; first | rfl | simp [hn3], HF.out.2.2.1⟩
    · have hltz : ¬ (i : Int) < (M : Int) := by omega
      have hltd : decide ((i : Int) < (M : Int)) = false := decide_eq_false hltz
      have hr : Aside (res = decide (n < 3000)) := by
        show res = decide (n < 3000)
        rw [HR.out]; unfold smallV
        rw [HI.out, List.drop_eq_nil_of_le (by have := HF.out.1; omega)]
        rfl
      by_cases hn3 : n < 3000
      · have hn3z : (n : Int) < 3000 := by omega
        go_wp2_with fail
        go_ret
        exact ⟨by rw [hr.out]; simp [hn3], HF.out.2.2.1⟩
      · have hn3z : ¬ (n : Int) < 3000 := by omega
        have hn3d : decide ((n : Int) < 3000) = false := decide_eq_false hn3z
        go_wp2_with fail
        go_ret
        exact ⟨by rw [hr.out]; simp [hn3], HF.out.2.2.1⟩
end Go.Proofs.YtemhfcgkfdklhaaGreatDoor.Look
