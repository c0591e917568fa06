/- utf.size, head, Scalar, Len, next, Decode. -/
import Derived.Test.YtemhfcgkfdklhaaGreatDoorByt
set_option linter.all false
namespace Go.Proofs.YtemhfcgkfdklhaaGreatDoor.Look
open Go Go.RowKit Go.Shelf Go.Proofs Go.Proofs.YtemhfcgkfdklhaaGreatDoor.Rd

def sizeU (c : Int) : Nat := if c < 128 then 1 else if 194 ≤ c ∧ c < 224 then 2 else if 224 ≤ c ∧ c < 240 then 3 else if 240 ≤ c ∧ c < 245 then 4 else 0
def headU (n : Nat) : Int := if n = 2 then 192 else if n = 3 then 224 else if n = 4 then 240 else 0
def contU (r d : Int) : Int := Go.bits .or .i32 (wrap32 (r * 64)) (wrap32 (Go.bits .and .u8 d 63))
def startU (c : Int) : Int := IntKind.i32.wrap (Go.bits .andNot .u8 c (headU (sizeU c)))
def restU (r : Int) : List Int → Option Int
  | [] => some r
  | d :: t => if Go.bits .andNot .u8 d 63 = 128 then restU (contU r d) t else none
def scalarU (r : Int) : Bool := decide ((0 ≤ r ∧ r ≤ 1114111) ∧ (r < 55296 ∨ 57343 < r))
def lenU (r : Int) : Nat := if scalarU r = true then (if r < 128 then 1 else if r < 2048 then 2 else if r < 65536 then 3 else 4) else 0
def nextU : List Int → Option (Int × Nat)
  | [] => none
  | c :: t => if sizeU c = 0 ∨ t.length + 1 < sizeU c then none else match restU (startU c) (t.take (sizeU c - 1)) with
    | none => none
    | some r => if lenU r = sizeU c then some (r, sizeU c) else none
theorem nextU_cons (c : Int) (t : List Int) : nextU (c :: t) = if sizeU c = 0 ∨ t.length + 1 < sizeU c then none else match restU (startU c) (t.take (sizeU c - 1)) with
    | none => none
    | some r => if lenU r = sizeU c then some (r, sizeU c) else none := rfl
theorem sizeU_le (c : Int) : sizeU c ≤ 4 := by
  unfold sizeU
  repeat' split
  all_goals decide
theorem restU_step {r d : Int} {l : List Int} {i : Nat} (h : l[i]? = some d) : restU r (l.drop i) = if Go.bits .andNot .u8 d 63 = 128 then restU (contU r d) (l.drop (i + 1)) else none := by
  obtain ⟨h1, e⟩ := List.getElem?_eq_some_iff.1 h
  rw [List.drop_eq_getElem_cons h1, e]
  rfl
def retU : Option (Int × Nat) → Value
  | none => .tuple #[.int .i32 0, .int .i64 0]
  | some (r, n) => .tuple #[.int .i32 r, .int .i64 n]

set_option maxHeartbeats 8000000 in
set_option maxRecDepth 100000 in
theorem cSizeU (c : Int) (w : World) : Calls Tryz.prog 70 #[.int .u8 c] w fun e w' => e = .returned (.int .i64 (sizeU c)) ∧ w = w' := by
  unfold sizeU
  by_cases h1 : c < 128
  · rw [if_pos h1]
    go_enter Tryz.func70, Tryz.ntmps70; go_wp2; go_ret; exact ⟨rfl, rfl⟩
  rw [if_neg h1]
  by_cases h2 : 194 ≤ c
  · by_cases h3 : c < 224
    · rw [if_pos ⟨h2, h3⟩]
      go_enter Tryz.func70, Tryz.ntmps70; go_wp2; go_ret; exact ⟨rfl, rfl⟩
    · rw [if_neg (fun h => h3 h.2)]
      by_cases h5 : c < 240
      · rw [if_pos ⟨by omega, h5⟩]
        have h4 : 224 ≤ c := by omega
        go_enter Tryz.func70, Tryz.ntmps70; go_wp2; go_ret; exact ⟨rfl, rfl⟩
      · rw [if_neg (fun h => h5 h.2)]
        have h4 : 224 ≤ c := by omega
        have h6 : 240 ≤ c := by omega
        by_cases h7 : c < 245
        · rw [if_pos ⟨h6, h7⟩]
          go_enter Tryz.func70, Tryz.ntmps70; go_wp2; go_ret; exact ⟨rfl, rfl⟩
        · rw [if_neg (fun h => h7 h.2)]
          go_enter Tryz.func70, Tryz.ntmps70; go_wp2; go_ret; exact ⟨rfl, rfl⟩
  · rw [if_neg (fun h => h2 h.1), if_neg (fun h => h2 (by omega)), if_neg (fun h => h2 (by omega))]
    have h4 : ¬ 224 ≤ c := by omega
    have h6 : ¬ 240 ≤ c := by omega
    go_enter Tryz.func70, Tryz.ntmps70; go_wp2; go_ret; exact ⟨rfl, rfl⟩

set_option maxHeartbeats 8000000 in
set_option maxRecDepth 100000 in
theorem cHeadU (n : Nat) (w : World) : Calls Tryz.prog 71 #[.int .i64 (n : Int)] w fun e w' => e = .returned (.int .u8 (headU n)) ∧ w = w' := by
  unfold headU
  by_cases h2 : n = 2
  · subst h2; go_enter Tryz.func71, Tryz.ntmps71; go_wp2; go_ret; exact ⟨rfl, rfl⟩
  · have b2 : ((n : Int) == 2) = false := by simp; omega
    rw [if_neg h2]
    by_cases h3 : n = 3
    · subst h3; go_enter Tryz.func71, Tryz.ntmps71; go_wp2; go_ret; exact ⟨rfl, rfl⟩
    · have b3 : ((n : Int) == 3) = false := by simp; omega
      rw [if_neg h3]
      by_cases h4 : n = 4
      · subst h4; go_enter Tryz.func71, Tryz.ntmps71; go_wp2; go_ret; exact ⟨rfl, rfl⟩
      · have b4 : ((n : Int) == 4) = false := by simp; omega
        rw [if_neg h4]
        go_enter Tryz.func71, Tryz.ntmps71; go_wp2; go_ret; exact ⟨rfl, rfl⟩

set_option maxHeartbeats 8000000 in
set_option maxRecDepth 100000 in
theorem cScalarU (r : Int) (w : World) : Calls Tryz.prog 91 #[.int .i32 r] w fun e w' => e = .returned (.bool (scalarU r)) ∧ w = w' := by
  unfold scalarU
  by_cases h1 : 0 ≤ r
  · by_cases h2 : r ≤ 1114111
    · by_cases h3 : r < 55296
      · rw [decide_eq_true ⟨⟨h1, h2⟩, .inl h3⟩]; go_enter Tryz.func91, Tryz.ntmps91; go_wp2; go_ret; exact ⟨rfl, rfl⟩
      · by_cases h4 : 57343 < r
        · rw [decide_eq_true ⟨⟨h1, h2⟩, .inr h4⟩]; go_enter Tryz.func91, Tryz.ntmps91; go_wp2; go_ret; exact ⟨rfl, rfl⟩
        · rw [decide_eq_false (fun h => h.2.elim h3 h4)]; go_enter Tryz.func91, Tryz.ntmps91; go_wp2; go_ret; exact ⟨rfl, rfl⟩
    · rw [decide_eq_false (fun h => h2 h.1.2)]; go_enter Tryz.func91, Tryz.ntmps91; go_wp2; go_ret; exact ⟨rfl, rfl⟩
  · rw [decide_eq_false (fun h => h1 h.1.1)]; go_enter Tryz.func91, Tryz.ntmps91; go_wp2; go_ret; exact ⟨rfl, rfl⟩

set_option maxHeartbeats 8000000 in
set_option maxRecDepth 100000 in
theorem cLenU (r : Int) (w : World) : Calls Tryz.prog 72 #[.int .i32 r] w fun e w' => e = .returned (.int .i64 (lenU r)) ∧ w = w' := by
  have hS := fun X => cScalarU r X
  unfold lenU
  cases hs : scalarU r with
  | false =>
    rw [hs] at hS
    rw [if_neg (by decide)]
    go_enter Tryz.func72, Tryz.ntmps72; go_wp2_with (go_at_call 91; refine (hS _).mono ?_; rintro _ w9 ⟨rfl, rfl⟩); go_ret; exact ⟨rfl, rfl⟩
  | true =>
    rw [hs] at hS
    rw [if_pos rfl]
    by_cases h1 : r < 128
    · rw [if_pos h1]; go_enter Tryz.func72, Tryz.ntmps72; go_wp2_with (go_at_call 91; refine (hS _).mono ?_; rintro _ w9 ⟨rfl, rfl⟩); go_ret; exact ⟨rfl, rfl⟩
    rw [if_neg h1]
    by_cases h2 : r < 2048
    · rw [if_pos h2]; go_enter Tryz.func72, Tryz.ntmps72; go_wp2_with (go_at_call 91; refine (hS _).mono ?_; rintro _ w9 ⟨rfl, rfl⟩); go_ret; exact ⟨rfl, rfl⟩
    rw [if_neg h2]
    by_cases h3 : r < 65536
    · rw [if_pos h3]; go_enter Tryz.func72, Tryz.ntmps72; go_wp2_with (go_at_call 91; refine (hS _).mono ?_; rintro _ w9 ⟨rfl, rfl⟩); go_ret; exact ⟨rfl, rfl⟩
    rw [if_neg h3]
    go_enter Tryz.func72, Tryz.ntmps72; go_wp2_with (go_at_call 91; refine (hS _).mono ?_; rintro _ w9 ⟨rfl, rfl⟩); go_ret; exact ⟨rfl, rfl⟩

set_option maxHeartbeats 8000000 in
set_option maxRecDepth 100000 in
theorem cNextU (b off cp : Nat) (c : Int) (t : List Int) (w : World) (hl : ∀ j x, (c :: t)[j]? = some x → w.cell? ⟨b, off + j, none⟩ = some (.int .u8 x)) (hN : (c :: t).length ≤ 2000000) (hcp : (c :: t).length ≤ cp) (hcp2 : cp ≤ 9223372036854775807) :
    Calls Tryz.prog 52 #[.slice (some ⟨b, off, none⟩) (c :: t).length cp] w fun e w' => e = .returned (retU (nextU (c :: t))) ∧ Below w.heap.size w w' := by
  have yb : w.cell? ⟨b, off, none⟩ = some (.int .u8 c) := hl 0 c rfl
  have hcell : ∀ j x, t[j]? = some x → w.cell? ⟨b, off + 1 + j, none⟩ = some (.int .u8 x) := fun j x hx => by
    have := hl (j + 1) x (by simpa using hx)
    rwa [show off + (j + 1) = off + 1 + j by omega] at this
  have hS := fun X => cSizeU c X
  have hn4 := sizeU_le c
  obtain ⟨N, hNl⟩ : ∃ N, N = t.length + 1 := ⟨_, rfl⟩
  rw [List.length_cons] at hN hcp ⊢
  rw [← hNl] at hN hcp ⊢
  have hN0 : (0 : Int) < (N : Int) := by omega
  have hN0n : 0 < N := by omega
  obtain ⟨n, hn⟩ : ∃ n, n = sizeU c := ⟨_, rfl⟩
  have hH := fun X => cHeadU n X
  have HN : Aside (n = sizeU c ∧ N = t.length + 1) := ⟨hn, hNl⟩
  have HC : Aside (∀ j x, t[j]? = some x → w.cell? ⟨b, off + 1 + j, none⟩ = some (.int .u8 x)) := hcell
  rw [← hn] at hS hn4
  clear hl hcell
  by_cases hn0 : n = 0
  · have hB : Aside (nextU (c :: t) = none) := if_pos (.inl (by omega))
    subst hn0
    clear hn hNl
    go_enter Tryz.func52, Tryz.ntmps52
    go_wp2_with (go_at_call 70; refine (hS _).mono ?_; rintro _ w9 ⟨rfl, rfl⟩)
    go_ret2
    exact ⟨by rw [hB.out]; rfl, Below.refl _ _⟩
  have hnz : ((n : Int) == 0) = false := by simp; omega
  by_cases hgt0 : N < n
  · have hB : Aside (nextU (c :: t) = none) := if_pos (.inr (by omega))
    clear hn hNl
    have hgtn : decide (N < n) = true := decide_eq_true hgt0
    have hgt : (N : Int) < (n : Int) := by omega
    go_enter Tryz.func52, Tryz.ntmps52
    go_wp2_with (go_at_call 70; refine (hS _).mono ?_; rintro _ w9 ⟨rfl, rfl⟩)
    go_ret2
    exact ⟨by rw [hB.out]; rfl, Below.refl _ _⟩
  have hgtn : decide (N < n) = false := decide_eq_false hgt0
  have hgt : decide ((N : Int) < (n : Int)) = false := decide_eq_false (by omega)
  have hgt2 : (n : Int) ≤ (N : Int) := by omega
  have hn1 : (1 : Int) ≤ (n : Int) := by omega
  have hcpz : (N : Int) ≤ (cp : Int) := by omega
  have hncp : (n : Int) ≤ (cp : Int) := by omega
  have HST : Aside (startU c = IntKind.i32.wrap (Go.bits .andNot .u8 c (headU n))) := by rw [hn]; rfl
  clear hn hNl
  obtain ⟨W0, hW0⟩ : ∃ W0, W0 = w.drew := ⟨_, rfl⟩
  by_cases hc1 : cp = 1
  · have hc1b : (cp == 1) = true := by simpa using hc1
    go_enter Tryz.func52, Tryz.ntmps52
    go_wp2_with (go_at_call 70; refine (hS _).mono ?_; rintro _ w9 ⟨rfl, rfl⟩)
    refine wp_region_held_drew (S := fun w' => w'.cell? ⟨b, off, none⟩ = some (.int .u8 c)) (by kernel_rfl) yb (fun hHeld => ?_)
    refine wpAnyH_take (i := 0) (v := ?v0_1) rfl (by kernel_rfl) (by kernel_rfl) (by kernel_rfl) (fun _ _ _ h => h) (Or.inl ⟨by kernel_rfl, ?h0_1⟩) hHeld ?r0_1
    case h0_1 => (rintro w' q0; go_simp; try (with_reducible rfl))
    try simp only [Act.put, List.getElem_toArray, List.getElem_cons_zero, List.getElem_cons_succ, List.setIfInBounds_toArray, List.set_cons_zero, List.set_cons_succ]
    refine wpAnyH_take (i := 1) (v := ?v1_2) rfl (by kernel_rfl) (by kernel_rfl) (by kernel_rfl) (fun _ _ _ h => h) (Or.inl ⟨by kernel_rfl, ?h1_2⟩) hHeld ?r1_2
    case h1_2 => (rintro w' q0; go_simp; try (with_reducible rfl))
    try simp only [Act.put, List.getElem_toArray, List.getElem_cons_zero, List.getElem_cons_succ, List.setIfInBounds_toArray, List.set_cons_zero, List.set_cons_succ]
    refine wpAnyH_take (i := 2) (v := ?v2_3) rfl (by kernel_rfl) (by kernel_rfl) (by kernel_rfl) (fun _ _ _ h => h) (Or.inl ⟨by kernel_rfl, ?h2_3⟩) hHeld ?r2_3
    case h2_3 => (rintro w' q0; go_simp; try (with_reducible rfl))
    try simp only [Act.put, List.getElem_toArray, List.getElem_cons_zero, List.getElem_cons_succ, List.setIfInBounds_toArray, List.set_cons_zero, List.set_cons_succ]
    refine wpAnyH_take (i := 3) (v := ?v3_4) rfl (by kernel_rfl) (by kernel_rfl) (by kernel_rfl) (fun _ _ _ h => h) (Or.inl ⟨by kernel_rfl, ?h3_4⟩) hHeld ?r3_4
    case h3_4 => (rintro w' q0; go_simp; try (with_reducible rfl))
    try simp only [Act.put, List.getElem_toArray, List.getElem_cons_zero, List.getElem_cons_succ, List.setIfInBounds_toArray, List.set_cons_zero, List.set_cons_succ]
    refine wpAnyH_ready (rs := [4]) (by kernel_rfl) (by simp) ?_
    refine AllReadyH.cons (o := { dst := some 24, op := Op.call { callee := Callee.value (Operand.func 71), args := #[Operand.tmp 23], argTypes := #[3] }, type := 5, pos := "utf.go:89", after := #[{ on := 3, ground := Ground.data }], guard := none }) rfl (fun K hK => ?_) AllReadyH.nil
    go_simp
    refine (hH _).mono ?_
    rintro _ w9 ⟨rfl, rfl⟩
    refine hK.out _ _ hHeld (fun hH2 => ?_)
    clear hK K
    try simp only [Act.put, List.getElem_toArray, List.getElem_cons_zero, List.getElem_cons_succ, List.setIfInBounds_toArray, List.set_cons_zero, List.set_cons_succ]
    refine wpAnyH_take (i := 5) (v := ?v5_5) rfl (by kernel_rfl) (by kernel_rfl) (by kernel_rfl) (fun _ _ _ h => h) (Or.inl ⟨by kernel_rfl, ?h5_5⟩) hH2 ?r5_5
    case h5_5 => (rintro w' q0; go_simp; try (with_reducible rfl))
    try simp only [Act.put, List.getElem_toArray, List.getElem_cons_zero, List.getElem_cons_succ, List.setIfInBounds_toArray, List.set_cons_zero, List.set_cons_succ]
    refine wpAnyH_take (i := 6) (v := ?v6_6) rfl (by kernel_rfl) (by kernel_rfl) (by kernel_rfl) (fun _ _ _ h => h) (Or.inl ⟨by kernel_rfl, ?h6_6⟩) hH2 ?r6_6
    case h6_6 => (rintro w' q0; go_simp; try (with_reducible rfl))
    try simp only [Act.put, List.getElem_toArray, List.getElem_cons_zero, List.getElem_cons_succ, List.setIfInBounds_toArray, List.set_cons_zero, List.set_cons_succ]
    refine wpAnyH_take (i := 7) (v := ?v7_7) rfl (by kernel_rfl) (by kernel_rfl) (by kernel_rfl) (fun _ _ _ h => h) (Or.inl ⟨by kernel_rfl, ?h7_7⟩) hH2 ?r7_7
    case h7_7 => (rintro w' q0; go_simp; try (with_reducible rfl))
    try simp only [Act.put, List.getElem_toArray, List.getElem_cons_zero, List.getElem_cons_succ, List.setIfInBounds_toArray, List.set_cons_zero, List.set_cons_succ]
    refine wpAnyH_done (by kernel_rfl) ?_ _
    try simp only [Act.put, List.getElem_toArray, List.getElem_cons_zero, List.getElem_cons_succ, List.setIfInBounds_toArray, List.set_cons_zero, List.set_cons_succ]
    clear hH2 hHeld
    rw [← hW0]
    replace hW0 := Lib.hid hW0
    go_wp2_with fail
    go_loopg [5, 7, 31] (n - 1) (fun g v5 v7 v31 wr => ∃ (i : Nat) (r : Int), v31 = .int .i64 (i : Int) ∧ v5 = .int .i32 r ∧ i ≤ n - 1 ∧ n - 1 - i ≤ g ∧ wr = W0 ∧ Aside (restU (startU c) (t.take (n - 1)) = restU r ((t.take (n - 1)).drop i)))
    case atStart => exact ⟨0, _, rfl, rfl, by omega, by omega, rfl, Lib.hid (by rw [List.drop_zero, HST.out])⟩
    case round =>
    obtain ⟨i, r, rfl, rfl, hi, hg1, rfl, HI⟩ := hrel
    by_cases hlt : i < n - 1
    · omega
    · have hlti : ¬ (i : Int) < ((n - 1 : Nat) : Int) := by omega
      have hin : i = n - 1 := by omega
      have hR : Aside (restU (startU c) (t.take (n - 1)) = some r) := by
        show restU (startU c) (t.take (n - 1)) = some r
        rw [HI.out, List.drop_eq_nil_of_le (by rw [List.length_take]; omega)]
        rfl
      have hL := fun X => cLenU r X
      by_cases hlr : lenU r = n
      · have hB : Aside (nextU (c :: t) = some (r, n)) := by
          show nextU (c :: t) = _
          rw [nextU_cons, if_neg (by have := HN.out; omega), ← HN.out.1, hR.out]
          exact if_pos hlr
        rw [hlr] at hL
        clear hlr
        go_wp2_with (go_at_call 72; refine (hL _).mono ?_; rintro _ w9 ⟨rfl, rfl⟩)
        go_ret2
        refine ⟨by rw [hB.out]; rfl, ?_⟩
        rw [hW0.out]; exact (Below.refl _ w).drew
      · have hB : Aside (nextU (c :: t) = none) := by
          show nextU (c :: t) = _
          rw [nextU_cons, if_neg (by have := HN.out; omega), ← HN.out.1, hR.out]
          exact if_neg hlr
        have hlb : ((lenU r : Int) == (n : Int)) = false := by simp; omega
        have hlb2 : ¬ (lenU r : Int) = (n : Int) := by omega
        go_wp2_with (go_at_call 72; refine (hL _).mono ?_; rintro _ w9 ⟨rfl, rfl⟩)
        go_ret2
        refine ⟨by rw [hB.out]; rfl, ?_⟩
        rw [hW0.out]; exact (Below.refl _ w).drew
  · have hc1b : (cp == 1) = false := by simpa using hc1
    go_enter Tryz.func52, Tryz.ntmps52
    go_wp2_with (go_at_call 70; refine (hS _).mono ?_; rintro _ w9 ⟨rfl, rfl⟩)
    refine wp_region_held_drew (S := fun w' => w'.cell? ⟨b, off, none⟩ = some (.int .u8 c)) (by kernel_rfl) yb (fun hHeld => ?_)
    refine wpAnyH_take (i := 0) (v := ?v0_8) rfl (by kernel_rfl) (by kernel_rfl) (by kernel_rfl) (fun _ _ _ h => h) (Or.inl ⟨by kernel_rfl, ?h0_8⟩) hHeld ?r0_8
    case h0_8 => (rintro w' q0; go_simp; try (with_reducible rfl))
    try simp only [Act.put, List.getElem_toArray, List.getElem_cons_zero, List.getElem_cons_succ, List.setIfInBounds_toArray, List.set_cons_zero, List.set_cons_succ]
    refine wpAnyH_take (i := 1) (v := ?v1_9) rfl (by kernel_rfl) (by kernel_rfl) (by kernel_rfl) (fun _ _ _ h => h) (Or.inl ⟨by kernel_rfl, ?h1_9⟩) hHeld ?r1_9
    case h1_9 => (rintro w' q0; go_simp; try (with_reducible rfl))
    try simp only [Act.put, List.getElem_toArray, List.getElem_cons_zero, List.getElem_cons_succ, List.setIfInBounds_toArray, List.set_cons_zero, List.set_cons_succ]
    refine wpAnyH_take (i := 2) (v := ?v2_10) rfl (by kernel_rfl) (by kernel_rfl) (by kernel_rfl) (fun _ _ _ h => h) (Or.inl ⟨by kernel_rfl, ?h2_10⟩) hHeld ?r2_10
    case h2_10 => (rintro w' q0; go_simp; try (with_reducible rfl))
    try simp only [Act.put, List.getElem_toArray, List.getElem_cons_zero, List.getElem_cons_succ, List.setIfInBounds_toArray, List.set_cons_zero, List.set_cons_succ]
    refine wpAnyH_take (i := 3) (v := ?v3_11) rfl (by kernel_rfl) (by kernel_rfl) (by kernel_rfl) (fun _ _ _ h => h) (Or.inl ⟨by kernel_rfl, ?h3_11⟩) hHeld ?r3_11
    case h3_11 => (rintro w' q0; go_simp; try (with_reducible rfl))
    try simp only [Act.put, List.getElem_toArray, List.getElem_cons_zero, List.getElem_cons_succ, List.setIfInBounds_toArray, List.set_cons_zero, List.set_cons_succ]
    refine wpAnyH_ready (rs := [4]) (by kernel_rfl) (by simp) ?_
    refine AllReadyH.cons (o := { dst := some 24, op := Op.call { callee := Callee.value (Operand.func 71), args := #[Operand.tmp 23], argTypes := #[3] }, type := 5, pos := "utf.go:89", after := #[{ on := 3, ground := Ground.data }], guard := none }) rfl (fun K hK => ?_) AllReadyH.nil
    go_simp
    refine (hH _).mono ?_
    rintro _ w9 ⟨rfl, rfl⟩
    refine hK.out _ _ hHeld (fun hH2 => ?_)
    clear hK K
    try simp only [Act.put, List.getElem_toArray, List.getElem_cons_zero, List.getElem_cons_succ, List.setIfInBounds_toArray, List.set_cons_zero, List.set_cons_succ]
    refine wpAnyH_take (i := 5) (v := ?v5_12) rfl (by kernel_rfl) (by kernel_rfl) (by kernel_rfl) (fun _ _ _ h => h) (Or.inl ⟨by kernel_rfl, ?h5_12⟩) hH2 ?r5_12
    case h5_12 => (rintro w' q0; go_simp; try (with_reducible rfl))
    try simp only [Act.put, List.getElem_toArray, List.getElem_cons_zero, List.getElem_cons_succ, List.setIfInBounds_toArray, List.set_cons_zero, List.set_cons_succ]
    refine wpAnyH_take (i := 6) (v := ?v6_13) rfl (by kernel_rfl) (by kernel_rfl) (by kernel_rfl) (fun _ _ _ h => h) (Or.inl ⟨by kernel_rfl, ?h6_13⟩) hH2 ?r6_13
    case h6_13 => (rintro w' q0; go_simp; try (with_reducible rfl))
    try simp only [Act.put, List.getElem_toArray, List.getElem_cons_zero, List.getElem_cons_succ, List.setIfInBounds_toArray, List.set_cons_zero, List.set_cons_succ]
    refine wpAnyH_take (i := 7) (v := ?v7_14) rfl (by kernel_rfl) (by kernel_rfl) (by kernel_rfl) (fun _ _ _ h => h) (Or.inl ⟨by kernel_rfl, ?h7_14⟩) hH2 ?r7_14
    case h7_14 => (rintro w' q0; go_simp; try (with_reducible rfl))
    try simp only [Act.put, List.getElem_toArray, List.getElem_cons_zero, List.getElem_cons_succ, List.setIfInBounds_toArray, List.set_cons_zero, List.set_cons_succ]
    refine wpAnyH_done (by kernel_rfl) ?_ _
    try simp only [Act.put, List.getElem_toArray, List.getElem_cons_zero, List.getElem_cons_succ, List.setIfInBounds_toArray, List.set_cons_zero, List.set_cons_succ]
    clear hH2 hHeld
    rw [← hW0]
    have HC2 : Aside (∀ j x, t[j]? = some x → W0.cell? ⟨b, off + 1 + j, none⟩ = some (.int .u8 x)) := by rw [hW0]; exact HC.out
    replace hW0 := Lib.hid hW0
    go_wp2_with fail
    go_loopg [5, 7, 31] (n - 1) (fun g v5 v7 v31 wr => ∃ (i : Nat) (r : Int), v31 = .int .i64 (i : Int) ∧ v5 = .int .i32 r ∧ i ≤ n - 1 ∧ n - 1 - i ≤ g ∧ wr = W0 ∧ Aside (restU (startU c) (t.take (n - 1)) = restU r ((t.take (n - 1)).drop i)))
    case atStart => exact ⟨0, _, rfl, rfl, by omega, by omega, rfl, Lib.hid (by rw [List.drop_zero, HST.out])⟩
    case round =>
    obtain ⟨i, r, rfl, rfl, hi, hg1, rfl, HI⟩ := hrel
    by_cases hlt : i < n - 1
    · obtain ⟨d, hd⟩ : ∃ d, t[i]? = some d := ⟨_, List.getElem?_eq_getElem (by have := HN.out.2; omega)⟩
      have hx := HC2.out i d hd
      have HD : Aside (restU r ((t.take (n - 1)).drop i) = if Go.bits .andNot .u8 d 63 = 128 then restU (contU r d) ((t.take (n - 1)).drop (i + 1)) else none) := restU_step (by rw [List.getElem?_take_of_lt hlt]; exact hd)
      clear hd
      have hlti : (i : Int) < ((n - 1 : Nat) : Int) := by omega
      by_cases hc : Go.bits .andNot .u8 d 63 = 128
      · go_wp2_with fail
        go_roundg (n - 1 - (i + 1))
        case measure => omega
        case rel => exact ⟨i + 1, _, by first | rfl | go_num, rfl, by omega, by omega, rfl, Lib.hid (by rw [HI.out, HD.out, if_pos hc]; rfl)⟩
      · have hcb : (Go.bits .andNot .u8 d 63 == 128) = false := by simpa using hc
        have hB : Aside (nextU (c :: t) = none) := by
          show nextU (c :: t) = _
          rw [nextU_cons, if_neg (by have := HN.out; omega), ← HN.out.1, HI.out, HD.out, if_neg hc]
        clear hc
        go_wp2_with fail
        go_ret2
        refine ⟨by rw [hB.out]; rfl, ?_⟩
        rw [hW0.out]; exact (Below.refl _ w).drew
    · have hlti : ¬ (i : Int) < ((n - 1 : Nat) : Int) := by omega
      have hin : i = n - 1 := by omega
      have hR : Aside (restU (startU c) (t.take (n - 1)) = some r) := by
        show restU (startU c) (t.take (n - 1)) = some r
        rw [HI.out, List.drop_eq_nil_of_le (by rw [List.length_take]; omega)]
        rfl
      have hL := fun X => cLenU r X
      by_cases hlr : lenU r = n
      · have hB : Aside (nextU (c :: t) = some (r, n)) := by
          show nextU (c :: t) = _
          rw [nextU_cons, if_neg (by have := HN.out; omega), ← HN.out.1, hR.out]
          exact if_pos hlr
        rw [hlr] at hL
        clear hlr
        go_wp2_with (go_at_call 72; refine (hL _).mono ?_; rintro _ w9 ⟨rfl, rfl⟩)
        go_ret2
        refine ⟨by rw [hB.out]; rfl, ?_⟩
        rw [hW0.out]; exact (Below.refl _ w).drew
      · have hB : Aside (nextU (c :: t) = none) := by
          show nextU (c :: t) = _
          rw [nextU_cons, if_neg (by have := HN.out; omega), ← HN.out.1, hR.out]
          exact if_neg hlr
        have hlb : ((lenU r : Int) == (n : Int)) = false := by simp; omega
        have hlb2 : ¬ (lenU r : Int) = (n : Int) := by omega
        go_wp2_with (go_at_call 72; refine (hL _).mono ?_; rintro _ w9 ⟨rfl, rfl⟩)
        go_ret2
        refine ⟨by rw [hB.out]; rfl, ?_⟩
        rw [hW0.out]; exact (Below.refl _ w).drew
end Go.Proofs.YtemhfcgkfdklhaaGreatDoor.Look
