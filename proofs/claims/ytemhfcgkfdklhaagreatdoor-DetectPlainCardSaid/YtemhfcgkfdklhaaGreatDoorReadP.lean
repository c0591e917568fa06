/- read.Decode in plain words, and the law of two texts one behind the other. -/
import Derived.Test.YtemhfcgkfdklhaaGreatDoorProg
set_option linter.unusedVariables false
namespace Go.Proofs.YtemhfcgkfdklhaaGreatDoor.Rd

/-- The table: set, number, and the character there. -/
abbrev Tab := Int → Int → Option Int

def plainV (c : Int) : Option Int :=
  if c = 32 then some 32 else if c = 136 then some 152 else if c = 137 then some 156 else if c = 141 then some 8205 else if c = 142 then some 8204 else none
def sizeV (set : Int) : Nat := if set = 9 then 3 else if 1 ≤ set ∧ set ≤ 12 then 1 else 0
def finalV (set : Int) : Int := ([0, 66, 69, 83, 50, 51, 52, 78, 81, 49, 98, 112, 103] : List Int).getD set.toNat 0
/-- escape.one: the set of a last byte. -/
def oneC (c : Int) : Int × Int :=
  match [1, 3, 4, 5, 6, 7, 8].find? (fun j : Int => decide (finalV j = c)) with
  | some j => (j, 1)
  | none => (0, 0)
def oneV : List Int → Int × Int
  | [] => (0, 0)
  | [c] => oneC c
  | c :: d :: _ => if c = 33 ∧ d = 69 then (2, 2) else oneC c
def smallV (c : Int) : Int := if c = 115 then 1 else if c = 98 then 10 else if c = 112 then 11 else if c = 103 then 12 else 0
def eastV : List Int → Int × Int
  | [] => (0, 0)
  | [c] => if c = 49 then (0, 1) else (0, 0)
  | c :: d :: _ => if c = 49 then (0, 1) else if c = 44 ∧ d = 49 then (0, 2) else if (c = 41 ∨ c = 45) ∧ d = 49 then (1, 2) else (0, 0)
/-- side, set, bytes. -/
def parseV (b : List Int) : Int × Int × Int :=
  match b with
  | [] => (0, 0, 0)
  | c :: t =>
    if c = 41 ∨ c = 45 then (1, (oneV t).1, if 0 < (oneV t).2 then (oneV t).2 + 1 else (oneV t).2)
    else if c = 40 ∨ c = 44 then (0, (oneV t).1, if 0 < (oneV t).2 then (oneV t).2 + 1 else (oneV t).2)
    else if c = 36 then ((eastV t).1, 9, if 0 < (eastV t).2 then (eastV t).2 + 1 else (eastV t).2)
    else (0, smallV c, if 0 < smallV c then 1 else 0)

/-- Where a reader stands. -/
structure RS where
  pos : Nat
  g0 : Int
  g1 : Int
  out : List Int
  marks : List Int
  wh : Int

inductive Step
  | ok (s : RS)
  | bad (e : Int) (pos : Int)

def putS (mk : Int → Bool) (s : RS) (r : Int) (n : Nat) : RS :=
  if mk r = true then { s with pos := s.pos + n, marks := s.marks ++ [r], wh := if s.marks = [] then s.pos else s.wh }
  else { s with pos := s.pos + n, out := s.out ++ [r] ++ s.marks, marks := [] }
def grV (side c : Int) : Bool := decide (33 + side ≤ c ∧ c ≤ 126 + side)
def sideV (c : Int) : Int := if 128 ≤ c then 128 else 0
def setV (s : RS) (c : Int) : Int := if 128 ≤ c then s.g1 else s.g0
def numV (l : List Int) : Int := l.foldl (fun N x => N * 256 + x % 128) 0
/-- set, number and bytes of the code that stands at the text's head. -/
def codeV (rest : List Int) (s : RS) : Option (Int × Int × Nat) :=
  let c := rest.headD 0
  let set := setV s c
  let k := sizeV set
  if 0 < k ∧ k ≤ rest.length ∧ (rest.take k).all (grV (sideV c)) = true then some (set, numV (rest.take k), k) else none
def nextV (mk : Int → Bool) (T : Tab) (b : List Int) (s : RS) : Step :=
  let rest := b.drop s.pos
  let c := rest.headD 0
  if c = 27 then
    let p := parseV rest.tail
    if p.2.2 = 0 then .bad 5 s.pos
    else .ok { s with g0 := if p.1 = 0 then p.2.1 else s.g0, g1 := if p.1 = 0 then s.g1 else p.2.1, pos := s.pos + (p.2.2 + 1).toNat }
  else match plainV c with
    | some r => if s.marks ≠ [] then .bad 6 s.wh else .ok (putS mk s r 1)
    | none => match codeV rest s with
      | none => .bad 4 s.pos
      | some (set, n, k) => match T set n with
        | none => .bad 4 s.pos
        | some r => .ok (putS mk s r k)
theorem nextV_cons {mk : Int → Bool} {T : Tab} {b : List Int} {s : RS} {c : Int} {t : List Int} (h : b.drop s.pos = c :: t) : nextV mk T b s =
    if c = 27 then (if (parseV t).2.2 = 0 then .bad 5 s.pos
      else .ok { s with g0 := if (parseV t).1 = 0 then (parseV t).2.1 else s.g0, g1 := if (parseV t).1 = 0 then s.g1 else (parseV t).2.1, pos := s.pos + ((parseV t).2.2 + 1).toNat })
    else match plainV c with
      | some r => if s.marks ≠ [] then .bad 6 s.wh else .ok (putS mk s r 1)
      | none => match codeV (c :: t) s with
        | none => .bad 4 s.pos
        | some (set, n, k) => match T set n with
          | none => .bad 4 s.pos
          | some r => .ok (putS mk s r k) := by
  unfold nextV
  rw [h]
  rfl
def runF (mk : Int → Bool) (T : Tab) (b : List Int) : Nat → RS → Step
  | 0, s => .ok s
  | f + 1, s => if s.pos < b.length then
      match nextV mk T b s with
      | .ok s' => runF mk T b f s'
      | .bad e p => .bad e p
    else .ok s
def run (mk : Int → Bool) (T : Tab) (b : List Int) (s : RS) : Step := runF mk T b (b.length - s.pos) s
/-- May sets be there? -/
def mayV (g0 g1 : Int) : Bool := decide ((1 ≤ g0 ∧ g0 ≤ 12) ∧ (1 ≤ g1 ∧ g1 ≤ 9))
def endV : Step → Step
  | .ok s => if s.marks ≠ [] then .bad 6 s.wh else .ok s
  | .bad e p => .bad e p
def decodeV (mk : Int → Bool) (T : Tab) (b : List Int) (g0 g1 : Int) : Step :=
  if mayV g0 g1 = true then endV (run mk T b ⟨0, g0, g1, [], [], 0⟩) else .bad 1 0
def textV (mk : Int → Bool) (T : Tab) (b : List Int) : Step :=
  match decodeV mk T b 1 2 with
  | .ok s => if s.g0 ≠ 1 ∨ s.g1 ≠ 2 then .bad 7 b.length else .ok s
  | .bad e p => .bad e p

/-! ### The steps go on -/
theorem oneC_pos {c : Int} : (oneC c).2 = 0 ∨ (oneC c).2 = 1 := by
  unfold oneC
  split
  · right; rfl
  · left; rfl
theorem oneC_set {c : Int} (h : (oneC c).2 ≠ 0) : 1 ≤ (oneC c).1 ∧ (oneC c).1 ≤ 8 := by
  unfold oneC at h ⊢
  split at h
  · rename_i j hj
    have := List.mem_of_find?_eq_some hj
    simp only [List.mem_cons, List.not_mem_nil, or_false] at this
    simp only
    omega
  · exact absurd rfl h
theorem oneV_two (c d : Int) (t : List Int) : oneV (c :: d :: t) = if c = 33 ∧ d = 69 then (2, 2) else oneC c := rfl
theorem eastV_one (c : Int) : eastV [c] = if c = 49 then (0, 1) else (0, 0) := rfl
theorem eastV_two (c d : Int) (t : List Int) : eastV (c :: d :: t) = if c = 49 then (0, 1) else if c = 44 ∧ d = 49 then (0, 2) else if (c = 41 ∨ c = 45) ∧ d = 49 then (1, 2) else (0, 0) := rfl
theorem parseV_cons (c : Int) (t : List Int) : parseV (c :: t) =
    if c = 41 ∨ c = 45 then (1, (oneV t).1, if 0 < (oneV t).2 then (oneV t).2 + 1 else (oneV t).2)
    else if c = 40 ∨ c = 44 then (0, (oneV t).1, if 0 < (oneV t).2 then (oneV t).2 + 1 else (oneV t).2)
    else if c = 36 then ((eastV t).1, 9, if 0 < (eastV t).2 then (eastV t).2 + 1 else (eastV t).2)
    else (0, smallV c, if 0 < smallV c then 1 else 0) := rfl
theorem oneV_le (b : List Int) : 0 ≤ (oneV b).2 ∧ (oneV b).2 ≤ b.length ∧ ((oneV b).2 ≠ 0 → 1 ≤ (oneV b).1 ∧ (oneV b).1 ≤ 8) := by
  match b with
  | [] => simp [oneV]
  | [c] =>
    have h1 := @oneC_pos c
    have h2 := @oneC_set c
    show 0 ≤ (oneC c).2 ∧ (oneC c).2 ≤ _ ∧ _
    exact ⟨by omega, by simp only [List.length_cons, List.length_nil]; omega, h2⟩
  | c :: d :: t =>
    have h1 := @oneC_pos c
    have h2 := @oneC_set c
    rw [oneV_two]
    split
    · simp; omega
    · exact ⟨by omega, by simp only [List.length_cons]; omega, h2⟩
theorem eastV_le (b : List Int) : 0 ≤ (eastV b).2 ∧ (eastV b).2 ≤ b.length ∧ ((eastV b).1 = 0 ∨ (eastV b).1 = 1) := by
  match b with
  | [] => simp [eastV]
  | [c] => rw [eastV_one]; split <;> simp
  | c :: d :: t =>
    rw [eastV_two]
    repeat' split
    all_goals (refine ⟨by decide, ?_, by decide⟩; simp only [List.length_cons]; omega)
theorem smallV_le (c : Int) : 0 ≤ smallV c ∧ smallV c ≤ 12 := by
  unfold smallV
  repeat' split
  all_goals decide
theorem parseV_le (b : List Int) : 0 ≤ (parseV b).2.2 ∧ (parseV b).2.2 ≤ b.length ∧ ((parseV b).2.2 ≠ 0 → (parseV b).1 = 0 ∧ 1 ≤ (parseV b).2.1 ∧ (parseV b).2.1 ≤ 12 ∨ (parseV b).1 = 1 ∧ 1 ≤ (parseV b).2.1 ∧ (parseV b).2.1 ≤ 9) := by
  match b with
  | [] => simp [parseV]
  | c :: t =>
    have h1 := oneV_le t
    have h2 := eastV_le t
    have h3 := smallV_le c
    rw [parseV_cons, List.length_cons]
    have key : ∀ (sd st n : Int) (m : Nat), 0 ≤ n → n ≤ m → (n ≠ 0 → sd = 0 ∧ 1 ≤ st ∧ st ≤ 12 ∨ sd = 1 ∧ 1 ≤ st ∧ st ≤ 9) → 0 ≤ ((sd, st, n) : Int × Int × Int).2.2 ∧ ((sd, st, n) : Int × Int × Int).2.2 ≤ m ∧ (((sd, st, n) : Int × Int × Int).2.2 ≠ 0 → ((sd, st, n) : Int × Int × Int).1 = 0 ∧ 1 ≤ ((sd, st, n) : Int × Int × Int).2.1 ∧ ((sd, st, n) : Int × Int × Int).2.1 ≤ 12 ∨ ((sd, st, n) : Int × Int × Int).1 = 1 ∧ 1 ≤ ((sd, st, n) : Int × Int × Int).2.1 ∧ ((sd, st, n) : Int × Int × Int).2.1 ≤ 9) := fun _ _ _ _ h1 h2 h3 => ⟨h1, h2, h3⟩
    split
    · refine key _ _ _ _ ?_ ?_ ?_
      · split <;> omega
      · split <;> omega
      · intro h
        have : (oneV t).2 ≠ 0 := by intro e; rw [e] at h; simp at h
        have := h1.2.2 this
        omega
    · split
      · refine key _ _ _ _ ?_ ?_ ?_
        · split <;> omega
        · split <;> omega
        · intro h
          have : (oneV t).2 ≠ 0 := by intro e; rw [e] at h; simp at h
          have := h1.2.2 this
          omega
      · split
        · refine key _ _ _ _ ?_ ?_ ?_
          · split <;> omega
          · split <;> omega
          · intro h
            omega
        · refine key _ _ _ _ ?_ ?_ ?_
          · split <;> omega
          · split <;> omega
          · intro h
            split at h
            · omega
            · exact absurd rfl h
theorem oneV_append (a b : List Int) (h : (oneV a).2 ≠ 0) : oneV (a ++ b) = oneV a := by
  match a, b with
  | [], _ => exact absurd rfl h
  | c :: d :: t, _ => simp [oneV_two]
  | [c], [] => rfl
  | [c], d :: u =>
    show oneV (c :: d :: u) = oneV [c]
    rw [oneV_two]
    split
    · rename_i hc
      exact absurd (show (oneV [c]).2 = 0 by rw [hc.1]; decide) h
    · rfl
theorem eastV_append (a b : List Int) (h : (eastV a).2 ≠ 0) : eastV (a ++ b) = eastV a := by
  match a, b with
  | [], _ => exact absurd rfl h
  | c :: d :: t, _ => simp [eastV_two]
  | [c], [] => rfl
  | [c], d :: u =>
    show eastV (c :: d :: u) = eastV [c]
    rw [eastV_one] at h ⊢
    rw [eastV_two]
    by_cases hc : c = 49
    · rw [if_pos hc, if_pos hc]
    · rw [if_neg hc] at h
      exact absurd rfl h
theorem parseV_append (a b : List Int) (h : (parseV a).2.2 ≠ 0) : parseV (a ++ b) = parseV a := by
  match a with
  | [] => exact absurd rfl h
  | c :: t =>
    have g1 := oneV_append t b
    have g2 := eastV_append t b
    rw [List.cons_append, parseV_cons]
    rw [parseV_cons] at h ⊢
    by_cases h1 : c = 41 ∨ c = 45
    · rw [if_pos h1] at h ⊢
      rw [if_pos h1]
      simp only at h
      rw [g1 (by intro e; rw [e] at h; simp at h)]
    · rw [if_neg h1] at h ⊢
      rw [if_neg h1]
      by_cases h2 : c = 40 ∨ c = 44
      · rw [if_pos h2] at h ⊢
        rw [if_pos h2]
        simp only at h
        rw [g1 (by intro e; rw [e] at h; simp at h)]
      · rw [if_neg h2] at h ⊢
        rw [if_neg h2]
        by_cases h3 : c = 36
        · rw [if_pos h3] at h ⊢
          rw [if_pos h3]
          simp only at h
          rw [g2 (by intro e; rw [e] at h; simp at h)]
        · rw [if_neg h3, if_neg h3]

theorem codeV_cons (c : Int) (t : List Int) (s : RS) : codeV (c :: t) s = if 0 < sizeV (setV s c) ∧ sizeV (setV s c) ≤ (c :: t).length ∧ ((c :: t).take (sizeV (setV s c))).all (grV (sideV c)) = true then some (setV s c, numV ((c :: t).take (sizeV (setV s c))), sizeV (setV s c)) else none := rfl
theorem codeV_some {rest : List Int} {s : RS} {x : Int × Int × Nat} (h : codeV rest s = some x) : 0 < x.2.2 ∧ x.2.2 ≤ rest.length ∧ x.2.2 ≤ 3 := by
  unfold codeV at h
  simp only at h
  split at h
  · rename_i hc
    obtain rfl := Option.some.inj h
    refine ⟨hc.1, hc.2.1, ?_⟩
    simp only [sizeV]
    split
    · omega
    · split <;> omega
  · cases h
theorem codeV_append (a b : List Int) (s : RS) {x : Int × Int × Nat} (h : codeV a s = some x) : codeV (a ++ b) s = some x := by
  have h1 := codeV_some h
  cases a with
  | nil => simp at h1; omega
  | cons c t =>
    rw [codeV_cons] at h
    rw [List.cons_append, codeV_cons]
    by_cases hc : 0 < sizeV (setV s c) ∧ sizeV (setV s c) ≤ (c :: t).length ∧ ((c :: t).take (sizeV (setV s c))).all (grV (sideV c)) = true
    · rw [if_pos hc] at h
      have e1 : (c :: (t ++ b)).take (sizeV (setV s c)) = (c :: t).take (sizeV (setV s c)) := List.take_append_of_le_length (l₁ := c :: t) hc.2.1
      rw [e1, if_pos ⟨hc.1, by have := hc.2.1; simp only [List.length_cons, List.length_append] at this ⊢; omega, hc.2.2⟩]
      exact h
    · rw [if_neg hc] at h
      cases h

theorem putS_pos (mk : Int → Bool) (s : RS) (r : Int) (n : Nat) : (putS mk s r n).pos = s.pos + n := by unfold putS; split <;> rfl
/-- A step goes on, and not beyond the end. -/
theorem nextV_pos {mk : Int → Bool} {T : Tab} {b : List Int} {s s' : RS} (hs : s.pos < b.length) (h : nextV mk T b s = .ok s') : s.pos < s'.pos ∧ s'.pos ≤ b.length := by
  have hr : (b.drop s.pos).length = b.length - s.pos := List.length_drop
  cases hd : b.drop s.pos with
  | nil => rw [hd] at hr; simp at hr; omega
  | cons c t =>
  rw [hd] at hr
  simp only [List.length_cons] at hr
  unfold nextV at h
  simp only [hd, List.headD_cons, List.tail_cons] at h
  split at h
  · have hp := parseV_le t
    split at h
    · cases h
    · injection h with h
      rw [← h]
      simp only
      omega
  · split at h
    · split at h
      · cases h
      · injection h with h
        rw [← h, putS_pos]
        omega
    · split at h
      · cases h
      · rename_i x hx
        have hc := codeV_some hx
        simp only [List.length_cons] at hc
        split at h
        · cases h
        · injection h with h
          rw [← h, putS_pos]
          omega

theorem runF_ok {mk : Int → Bool} {T : Tab} {b : List Int} : ∀ (f g : Nat) (s : RS), b.length - s.pos ≤ f → b.length - s.pos ≤ g → runF mk T b f s = runF mk T b g s
  | 0, 0, s, _, _ => rfl
  | 0, g + 1, s, h1, _ => by
    unfold runF
    rw [if_neg (by omega)]
  | f + 1, 0, s, _, h2 => by
    unfold runF
    rw [if_neg (by omega)]
  | f + 1, g + 1, s, h1, h2 => by
    unfold runF
    split
    · rename_i hs
      split
      · rename_i s' hn
        have := nextV_pos hs hn
        exact runF_ok f g s' (by omega) (by omega)
      · rfl
    · rfl
theorem run_end {mk : Int → Bool} {T : Tab} {b : List Int} {s : RS} (h : b.length ≤ s.pos) : run mk T b s = .ok s := by
  unfold run
  rw [show b.length - s.pos = 0 by omega]
  rfl
theorem run_step {mk : Int → Bool} {T : Tab} {b : List Int} {s s' : RS} (h : s.pos < b.length) (hn : nextV mk T b s = .ok s') : run mk T b s = run mk T b s' := by
  have hp := nextV_pos h hn
  unfold run
  rw [show b.length - s.pos = (b.length - s.pos - 1) + 1 by omega]
  rw [show runF mk T b (b.length - s.pos - 1 + 1) s = runF mk T b (b.length - s.pos - 1) s' by
    rw [runF, if_pos h, hn]]
  exact runF_ok _ _ _ (by omega) (by omega)
theorem run_bad {mk : Int → Bool} {T : Tab} {b : List Int} {s : RS} {e : Int} {p : Int} (h : s.pos < b.length) (hn : nextV mk T b s = .bad e p) : run mk T b s = .bad e p := by
  unfold run
  rw [show b.length - s.pos = (b.length - s.pos - 1) + 1 by omega, runF, if_pos h, hn]

/-! ### What holds all the way -/
def MayS (s : RS) : Prop := 1 ≤ s.g0 ∧ s.g0 ≤ 12 ∧ 1 ≤ s.g1 ∧ s.g1 ≤ 9
theorem MayS.put {mk : Int → Bool} {s : RS} {r : Int} {n : Nat} (h : MayS s) : MayS (putS mk s r n) := by
  unfold putS
  split <;> exact h
theorem MayS.next {mk : Int → Bool} {T : Tab} {b : List Int} {s s' : RS} (h : MayS s) (hn : nextV mk T b s = .ok s') : MayS s' := by
  unfold nextV at hn
  simp only at hn
  split at hn
  · have hp := parseV_le (b.drop s.pos).tail
    split at hn
    · cases hn
    · rename_i h0
      injection hn with hn
      rw [← hn]
      obtain ⟨h1, h2, h3, h4⟩ := h
      rcases hp.2.2 h0 with ⟨e, h5, h6⟩ | ⟨e, h5, h6⟩
      · simp only [MayS, e, if_true]
        exact ⟨h5, h6, h3, h4⟩
      · simp only [MayS, e]
        exact ⟨h1, h2, h5, h6⟩
  · split at hn
    · split at hn
      · cases hn
      · injection hn with hn
        rw [← hn]; exact h.put
    · split at hn
      · cases hn
      · split at hn
        · cases hn
        · injection hn with hn
          rw [← hn]; exact h.put
theorem run_ind {mk : Int → Bool} {T : Tab} {b : List Int} (I : RS → Prop) (hI : ∀ s s', I s → s.pos < b.length → nextV mk T b s = .ok s' → I s') : ∀ (n : Nat) (s s' : RS), b.length - s.pos = n → I s → run mk T b s = .ok s' → I s' ∧ b.length ≤ s'.pos
  | n, s, s', hn, hs, hr => by
    by_cases h : s.pos < b.length
    · cases hx : nextV mk T b s with
      | bad e p => rw [run_bad h hx] at hr; cases hr
      | ok s1 =>
        rw [run_step h hx] at hr
        have := nextV_pos h hx
        exact run_ind I hI (b.length - s1.pos) s1 s' rfl (hI s s1 hs h hx) hr
    · rw [run_end (by omega)] at hr
      injection hr with hr
      rw [← hr]
      exact ⟨hs, by omega⟩
termination_by n => n
decreasing_by omega

/-! ### A text ahead of another one -/
theorem nextV_append {mk : Int → Bool} {T : Tab} {a b : List Int} {s s' : RS} (hs : s.pos < a.length) (h : nextV mk T a s = .ok s') : nextV mk T (a ++ b) s = .ok s' := by
  have hd : (a ++ b).drop s.pos = a.drop s.pos ++ b := List.drop_append_of_le_length (by omega)
  have hr : (a.drop s.pos).length = a.length - s.pos := List.length_drop
  cases hx : a.drop s.pos with
  | nil => rw [hx] at hr; simp at hr; omega
  | cons c t =>
  rw [hx, List.cons_append] at hd
  rw [nextV_cons hx] at h
  rw [nextV_cons hd]
  by_cases hc : c = 27
  · rw [if_pos hc] at h ⊢
    by_cases hp : (parseV t).2.2 = 0
    · rw [if_pos hp] at h; cases h
    · rw [if_neg hp] at h
      rw [parseV_append t b hp, if_neg hp]
      exact h
  · rw [if_neg hc] at h ⊢
    cases hpl : plainV c with
    | some r => rw [hpl] at h; exact h
    | none =>
      rw [hpl] at h
      cases hk : codeV (c :: t) s with
      | none => rw [hk] at h; cases h
      | some x =>
        have := codeV_append (c :: t) b s hk
        rw [List.cons_append] at this
        rw [this]
        rw [hk] at h
        exact h
theorem run_prefix {mk : Int → Bool} {T : Tab} {a b : List Int} : ∀ (n : Nat) (s s' : RS), a.length - s.pos = n → s.pos ≤ a.length → run mk T a s = .ok s' → run mk T (a ++ b) s = run mk T (a ++ b) s' ∧ s'.pos = a.length
  | n, s, s', hn, hp, hr => by
    by_cases h : s.pos < a.length
    · cases hx : nextV mk T a s with
      | bad e p => rw [run_bad h hx] at hr; cases hr
      | ok s1 =>
        rw [run_step h hx] at hr
        have h1 := nextV_pos h hx
        have h2 := run_prefix (b := b) (a.length - s1.pos) s1 s' rfl h1.2 hr
        refine ⟨?_, h2.2⟩
        rw [run_step (by simp; omega) (nextV_append h hx), h2.1]
    · rw [run_end (by omega)] at hr
      injection hr with hr
      rw [← hr]
      exact ⟨rfl, by omega⟩
termination_by n => n
decreasing_by omega

/-- The same place, A bytes on, the characters x ahead. -/
structure Sh (A : Nat) (x : List Int) (s t : RS) : Prop where
  pos : t.pos = A + s.pos
  g0 : t.g0 = s.g0
  g1 : t.g1 = s.g1
  out : t.out = x ++ s.out
  marks : t.marks = s.marks
  wh : s.marks ≠ [] → t.wh = A + s.wh
def ShStep (A : Nat) (x : List Int) : Step → Step → Prop
  | .ok s, .ok t => Sh A x s t
  | .bad e p, .bad e' p' => e' = e ∧ p' = A + p
  | _, _ => False
theorem Sh.put {mk : Int → Bool} {A : Nat} {x : List Int} {s t : RS} (h : Sh A x s t) (r : Int) (n : Nat) : Sh A x (putS mk s r n) (putS mk t r n) := by
  obtain ⟨h1, h2, h3, h4, h5, h6⟩ := h
  unfold putS
  split
  · refine ⟨by simp only; omega, h2, h3, h4, by simp only; rw [h5], fun _ => ?_⟩
    simp only
    rw [h5]
    split
    · omega
    · rename_i hm; exact h6 hm
  · refine ⟨by simp only; omega, h2, h3, by simp only; rw [h4, h5]; simp, rfl, fun h => absurd rfl h⟩
theorem nextV_shift {mk : Int → Bool} {T : Tab} {a b : List Int} {x : List Int} {s t : RS} (h : Sh a.length x s t) : ShStep a.length x (nextV mk T b s) (nextV mk T (a ++ b) t) := by
  have hd : (a ++ b).drop t.pos = b.drop s.pos := by rw [h.pos, List.drop_append]; simp
  unfold nextV
  simp only [hd]
  split
  · split
    · exact ⟨rfl, by have := h.pos; omega⟩
    · refine ⟨by simp only; have := h.pos; omega, ?_, ?_, h.out, h.marks, h.wh⟩
      · simp only; rw [h.g0]
      · simp only; rw [h.g1]
  · split
    · rw [h.marks]
      split
      · rename_i hm; exact ⟨rfl, h.wh hm⟩
      · exact h.put _ _
    · have hc : codeV (b.drop s.pos) t = codeV (b.drop s.pos) s := by
        unfold codeV setV
        rw [h.g0, h.g1]
      rw [hc]
      split
      · exact ⟨rfl, by have := h.pos; omega⟩
      · split
        · exact ⟨rfl, by have := h.pos; omega⟩
        · exact h.put _ _
theorem run_shift {mk : Int → Bool} {T : Tab} {a b : List Int} {x : List Int} : ∀ (n : Nat) (s t : RS), b.length - s.pos = n → Sh a.length x s t → ShStep a.length x (run mk T b s) (run mk T (a ++ b) t)
  | n, s, t, hn, h => by
    have hp := h.pos
    by_cases hl : s.pos < b.length
    · have hl2 : t.pos < (a ++ b).length := by simp; omega
      have hs := nextV_shift (mk := mk) (T := T) (b := b) h
      cases hx : nextV mk T b s with
      | bad e p =>
        rw [hx] at hs
        cases hy : nextV mk T (a ++ b) t with
        | ok t1 => rw [hy] at hs; exact hs.elim
        | bad e' p' =>
          rw [hy] at hs
          rw [run_bad hl hx, run_bad hl2 hy]
          exact hs
      | ok s1 =>
        rw [hx] at hs
        cases hy : nextV mk T (a ++ b) t with
        | bad e p => rw [hy] at hs; exact hs.elim
        | ok t1 =>
          rw [hy] at hs
          rw [run_step hl hx, run_step hl2 hy]
          have := nextV_pos hl hx
          exact run_shift (b.length - s1.pos) s1 t1 rfl hs
    · rw [run_end (by omega), run_end (by simp; omega)]
      exact h
termination_by n => n
decreasing_by omega

/-- TWO TEXTS, ONE BEHIND THE OTHER. -/
theorem decode_joins {mk : Int → Bool} {T : Tab} {a b : List Int} {g0 g1 : Int} {s : RS} (h : decodeV mk T a g0 g1 = .ok s) : ShStep a.length s.out (decodeV mk T b s.g0 s.g1) (decodeV mk T (a ++ b) g0 g1) := by
  unfold decodeV at h ⊢
  split at h
  · rename_i hm
    cases hr : run mk T a ⟨0, g0, g1, [], [], 0⟩ with
    | bad e p => rw [hr] at h; cases h
    | ok s1 =>
      rw [hr] at h
      simp only [endV] at h
      split at h
      · cases h
      · rename_i hmk
        injection h with h
        subst h
        have hm1 : s1.marks = [] := Decidable.not_not.1 hmk
        have hm' : 1 ≤ g0 ∧ g0 ≤ 12 ∧ 1 ≤ g1 ∧ g1 ≤ 9 := by
          have := of_decide_eq_true hm
          exact ⟨this.1.1, this.1.2, this.2.1, this.2.2⟩
        have hM := (run_ind MayS (fun s s' hs _ hn => hs.next hn) _ ⟨0, g0, g1, [], [], 0⟩ s1 rfl hm' hr).1
        have hp := run_prefix (b := b) _ ⟨0, g0, g1, [], [], 0⟩ s1 rfl (Nat.zero_le _) hr
        have hm2 : mayV s1.g0 s1.g1 = true := decide_eq_true ⟨⟨hM.1, hM.2.1⟩, hM.2.2.1, hM.2.2.2⟩
        rw [if_pos hm2, if_pos hm, hp.1]
        have hsh := run_shift (mk := mk) (T := T) (a := a) (b := b) (x := s1.out) _ ⟨0, s1.g0, s1.g1, [], [], 0⟩ s1 rfl ⟨by simp only; omega, rfl, rfl, by simp, hm1, fun h => absurd rfl h⟩
        cases hx : run mk T b ⟨0, s1.g0, s1.g1, [], [], 0⟩ with
        | bad e p =>
          rw [hx] at hsh
          cases hy : run mk T (a ++ b) s1 with
          | ok t => rw [hy] at hsh; exact hsh.elim
          | bad e' p' => rw [hy] at hsh; exact hsh
        | ok t0 =>
          rw [hx] at hsh
          cases hy : run mk T (a ++ b) s1 with
          | bad e' p' => rw [hy] at hsh; exact hsh.elim
          | ok t1 =>
            rw [hy] at hsh
            simp only [endV]
            have h5 : Sh a.length s1.out t0 t1 := hsh
            rw [h5.marks]
            split
            · rename_i hmm; exact ⟨rfl, h5.wh hmm⟩
            · exact h5
  · cases h
end Go.Proofs.YtemhfcgkfdklhaaGreatDoor.Rd
