/- The statement UtfDecodes of layer 1, over numbers and lists alone: utf.Decode gives the characters, or the place where none begins, that the reference gives.
   Conditions: none; for every list of bytes that a slice may hold. -/
import Derived.Test.YtmebmigolckeiaaPUtfDecodesx5
namespace Go.Proofs.Ytmebmigolckeiaa.Pure
open Go.RowKit Go.Proofs.Ytmebmigolckeiaa.PUtfDecodes Go.Proofs.YtmebmigolckeiaaW.PrintWords Go.Proofs.YtmebmigolckeiaaW.PrintLast Go.Proofs.YtmebmigolckeiaaW.PrintMore

theorem w32_in {n : Int} (h1 : -2147483648 ≤ n) (h2 : n ≤ 2147483647) : wrap32 n = n := by unfold wrap32; omega
theorem w64_in {n : Int} (h1 : -9223372036854775 ≤ n) (h2 : n ≤ 9223372036854775) : wrap64 n = n := by unfold wrap64; omega
theorem i32_wf {a : Int} (h : (Lit.int .i32 a).wf = true) : -2147483648 ≤ a ∧ a ≤ 2147483647 := by
  have h' : IntKind.i32.min ≤ a ∧ a ≤ IntKind.i32.max := by simpa [Lit.wf] using h
  have e1 : IntKind.i32.min = -2147483648 := by decide
  have e2 : IntKind.i32.max = 2147483647 := by decide
  omega
theorem u8_wf {a : Int} (h : (Lit.int .u8 a).wf = true) : 0 ≤ a ∧ a ≤ 255 := by
  have h' : IntKind.u8.min ≤ a ∧ a ≤ IntKind.u8.max := by simpa [Lit.wf] using h
  have e1 : IntKind.u8.min = 0 := by decide
  have e2 : IntKind.u8.max = 255 := by decide
  omega
theorem u32_wf {a : Int} (h : (Lit.int .u32 a).wf = true) : 0 ≤ a ∧ a ≤ 4294967295 := by
  have h' : IntKind.u32.min ≤ a ∧ a ≤ IntKind.u32.max := by simpa [Lit.wf] using h
  have e1 : IntKind.u32.min = 0 := by decide
  have e2 : IntKind.u32.max = 4294967295 := by decide
  omega

/-- A scalar. -/
def scal (r : Int) : Prop := 0 ≤ r ∧ r ≤ 1114111 ∧ (r < 55296 ∨ 57343 < r)
instance (r : Int) : Decidable (scal r) := by unfold scal; infer_instance
/-- How many bytes it has. -/
def len (r : Int) : Int := if scal r then (if r < 128 then 1 else if r < 2048 then 2 else if r < 65536 then 3 else 4) else 0
/-- Its bytes. -/
def enc (r : Int) : List Int :=
  if scal r then (if r < 128 then [r] else if r < 2048 then [192 + r / 64, 128 + r % 64] else if r < 65536 then [224 + r / 4096, 128 + r / 64 % 64, 128 + r % 64]
    else [240 + r / 262144, 128 + r / 4096 % 64, 128 + r / 64 % 64, 128 + r % 64]) else []

theorem enc_1 {r : Int} (h : 0 ≤ r ∧ r < 128) : len r = 1 ∧ enc r = [r] := by
  have hs : scal r := by unfold scal; omega
  unfold len enc
  rw [if_pos hs, if_pos hs, if_pos h.2, if_pos h.2]
  exact ⟨rfl, rfl⟩
theorem enc_2 {r : Int} (h : 128 ≤ r ∧ r < 2048) : len r = 2 ∧ enc r = [192 + r / 64, 128 + r % 64] := by
  have hs : scal r := by unfold scal; omega
  unfold len enc
  rw [if_pos hs, if_pos hs, if_neg (by omega), if_pos h.2, if_neg (by omega), if_pos h.2]
  exact ⟨rfl, rfl⟩
theorem enc_3 {r : Int} (h : 2048 ≤ r ∧ r < 65536) (hs : scal r) : len r = 3 ∧ enc r = [224 + r / 4096, 128 + r / 64 % 64, 128 + r % 64] := by
  unfold len enc
  rw [if_pos hs, if_pos hs, if_neg (by omega), if_neg (by omega), if_pos h.2, if_neg (by omega), if_neg (by omega), if_pos h.2]
  exact ⟨rfl, rfl⟩
theorem enc_4 {r : Int} (h : 65536 ≤ r ∧ r ≤ 1114111) : len r = 4 ∧ enc r = [240 + r / 262144, 128 + r / 4096 % 64, 128 + r / 64 % 64, 128 + r % 64] := by
  have hs : scal r := by unfold scal; omega
  unfold len enc
  rw [if_pos hs, if_pos hs, if_neg (by omega), if_neg (by omega), if_neg (by omega), if_neg (by omega), if_neg (by omega), if_neg (by omega)]
  exact ⟨rfl, rfl⟩
theorem enc_0 {r : Int} (h : ¬ scal r) : len r = 0 ∧ enc r = [] := by
  unfold len enc
  rw [if_neg h, if_neg h]
  exact ⟨rfl, rfl⟩
theorem scal_range {r : Int} (h : scal r) : 0 ≤ r ∧ r ≤ 1114111 := by unfold scal at h; omega
/-- By how many bytes it is. -/
theorem len_cases (r : Int) : (¬ scal r ∧ len r = 0) ∨ (scal r ∧ 0 ≤ r ∧ r < 128 ∧ len r = 1) ∨ (scal r ∧ 128 ≤ r ∧ r < 2048 ∧ len r = 2) ∨ (scal r ∧ 2048 ≤ r ∧ r < 65536 ∧ len r = 3) ∨ (scal r ∧ 65536 ≤ r ∧ r ≤ 1114111 ∧ len r = 4) := by
  by_cases hs : scal r
  · have hr := scal_range hs
    by_cases h1 : r < 128
    · exact Or.inr (Or.inl ⟨hs, hr.1, h1, (enc_1 ⟨hr.1, h1⟩).1⟩)
    by_cases h2 : r < 2048
    · exact Or.inr (Or.inr (Or.inl ⟨hs, by omega, h2, (enc_2 ⟨by omega, h2⟩).1⟩))
    by_cases h3 : r < 65536
    · exact Or.inr (Or.inr (Or.inr (Or.inl ⟨hs, by omega, h3, (enc_3 ⟨by omega, h3⟩ hs).1⟩)))
    · exact Or.inr (Or.inr (Or.inr (Or.inr ⟨hs, by omega, hr.2, (enc_4 ⟨by omega, hr.2⟩).1⟩)))
  · exact Or.inl ⟨hs, (enc_0 hs).1⟩
theorem len_range (r : Int) : 0 ≤ len r ∧ len r ≤ 4 := by
  unfold len
  repeat' split
  all_goals omega
theorem enc_len (r : Int) : ((enc r).length : Int) = len r := by
  unfold enc len
  repeat' split
  all_goals rfl

/-- A byte that follows. -/
def cont (b : Int) : Prop := 128 ≤ b ∧ b ≤ 191
instance (b : Int) : Decidable (cont b) := by unfold cont; infer_instance

/-- The scalar that bytes begin with, and how many they are. -/
def dec1 (l : List Int) : Int × Int :=
  match l with
  | [] => (0, 0)
  | a :: t =>
    if a < 128 then (a, 1)
    else if 194 ≤ a ∧ a < 224 then
      (match t with
      | b :: _ => if cont b then ((a - 192) * 64 + (b - 128), 2) else (0, 0)
      | _ => (0, 0))
    else if 224 ≤ a ∧ a < 240 then
      (match t with
      | b :: c :: _ => if cont b ∧ cont c ∧ len ((a - 224) * 4096 + (b - 128) * 64 + (c - 128)) = 3 then ((a - 224) * 4096 + (b - 128) * 64 + (c - 128), 3) else (0, 0)
      | _ => (0, 0))
    else if 240 ≤ a ∧ a < 245 then
      (match t with
      | b :: c :: d :: _ => if cont b ∧ cont c ∧ cont d ∧ len ((a - 240) * 262144 + (b - 128) * 4096 + (c - 128) * 64 + (d - 128)) = 4 then ((a - 240) * 262144 + (b - 128) * 4096 + (c - 128) * 64 + (d - 128), 4) else (0, 0)
      | _ => (0, 0))
    else (0, 0)

theorem dec1_cons (a : Int) (t : List Int) : dec1 (a :: t) =
    ((if a < 128 then (a, 1)
    else if 194 ≤ a ∧ a < 224 then
      (match t with
      | b :: _ => if cont b then ((a - 192) * 64 + (b - 128), 2) else (0, 0)
      | _ => (0, 0))
    else if 224 ≤ a ∧ a < 240 then
      (match t with
      | b :: c :: _ => if cont b ∧ cont c ∧ len ((a - 224) * 4096 + (b - 128) * 64 + (c - 128)) = 3 then ((a - 224) * 4096 + (b - 128) * 64 + (c - 128), 3) else (0, 0)
      | _ => (0, 0))
    else if 240 ≤ a ∧ a < 245 then
      (match t with
      | b :: c :: d :: _ => if cont b ∧ cont c ∧ cont d ∧ len ((a - 240) * 262144 + (b - 128) * 4096 + (c - 128) * 64 + (d - 128)) = 4 then ((a - 240) * 262144 + (b - 128) * 4096 + (c - 128) * 64 + (d - 128), 4) else (0, 0)
      | _ => (0, 0))
    else (0, 0)) : Int × Int) := rfl
theorem dec1_range (l : List Int) : 0 ≤ (dec1 l).2 ∧ (dec1 l).2 ≤ l.length := by
  unfold dec1
  repeat' split
  all_goals first | (simp; done) | (simp only [List.length_cons, List.length_nil, Nat.cast_add, Nat.cast_one]; omega) | (simp only [List.length_cons]; omega)

/-- All bytes. -/
def bytes (l : List Int) : Prop := ∀ x ∈ l, 0 ≤ x ∧ x ≤ 255
theorem bytes_drop {l : List Int} (h : bytes l) (n : Nat) : bytes (l.drop n) := fun x hx => h x (List.mem_of_mem_drop hx)

theorem scalar_is (r : Int) : utf_Scalar.f r = some (decide (scal r)) := by
  unfold utf_Scalar.f
  by_cases h : scal r
  · rw [decide_eq_true h]
    unfold scal at h
    rw [if_pos (by omega), if_pos (by omega)]
    split
    · rfl
    · rw [decide_eq_true (by omega)]
  · rw [decide_eq_false h]
    unfold scal at h
    split
    · split
      · rw [if_neg (by omega), decide_eq_false (by omega)]
      · rfl
    · rfl

theorem len_is (r : Int) : utf_Len.f r = some (len r) := by
  unfold utf_Len.f len
  rw [scalar_is]
  by_cases h : scal r
  · simp only [h, decide_true, Option.bind_some, if_true]
    repeat' split
    all_goals rfl
  · simp only [h, decide_false, Option.bind_some, Bool.false_eq_true, if_false]

/-- What a first byte begins. -/
def size1 (a : Int) : Int := if a < 128 then 1 else if 194 ≤ a ∧ a < 224 then 2 else if 224 ≤ a ∧ a < 240 then 3 else if 240 ≤ a ∧ a < 245 then 4 else 0
theorem size_is (k : Nat) (hk : 3 ≤ k) (a : Int) : utf_size.f k a = some (size1 a) := by
  obtain ⟨k, rfl⟩ : ∃ m, k = m + 3 := ⟨k - 3, by omega⟩
  unfold utf_size.f size1
  by_cases h1 : a < 128
  · rw [if_pos h1, if_pos h1]
  rw [if_neg h1, if_neg h1]
  by_cases h2 : 194 ≤ a ∧ a < 224
  · rw [if_pos h2.1, if_pos h2, decide_eq_true h2.2]; simp only [utf_size.j0, if_true]
  have e : (if a ≥ 194 then (utf_size.j0 (k + 3) a (decide (a < 224))) else (utf_size.j0 (k + 3) a false)) = utf_size.j0 (k + 3) a false := by
    split
    · rw [decide_eq_false (by omega)]
    · rfl
  rw [e, if_neg h2]
  simp only [utf_size.j0, Bool.false_eq_true, if_false]
  by_cases h3 : 224 ≤ a ∧ a < 240
  · rw [if_pos h3.1, if_pos h3, decide_eq_true h3.2]; simp only [utf_size.j1, if_true]
  have e : (if a ≥ 224 then (utf_size.j1 (k + 2) a (decide (a < 240))) else (utf_size.j1 (k + 2) a false)) = utf_size.j1 (k + 2) a false := by
    split
    · rw [decide_eq_false (by omega)]
    · rfl
  rw [e, if_neg h3]
  simp only [utf_size.j1, Bool.false_eq_true, if_false]
  by_cases h4 : 240 ≤ a
  · rw [if_pos h4]
    by_cases h5 : a < 245
    · rw [if_pos h5, if_pos ⟨h4, h5⟩]
    · rw [if_neg h5, if_neg (by omega)]
  · rw [if_neg h4, if_neg (by omega)]

/-- What a first byte's upper bits leave. -/
def body1 (a : Int) : Int := if a < 128 then a else if a < 224 then a - 192 else if a < 240 then a - 224 else a - 240
theorem mask_head : ∀ a : Fin 256, size1 (a.val : Int) ≠ 0 → wrap32 (Go.bits .andNot .u8 (a.val : Int) (if size1 (a.val : Int) = 2 then 192 else if size1 (a.val : Int) = 3 then 224 else if size1 (a.val : Int) = 4 then 240 else 0)) = body1 (a.val : Int) := by decide +kernel
theorem mask_cont : ∀ a : Fin 256, Go.bits .andNot .u8 (a.val : Int) 63 = 128 ↔ cont (a.val : Int) := by decide +kernel
theorem mask_cont' (a : Int) (h0 : 0 ≤ a) (h1 : a ≤ 255) : Go.bits .andNot .u8 a 63 = 128 ↔ cont a := by
  have := mask_cont ⟨a.toNat, by omega⟩
  have e : ((a.toNat : Nat) : Int) = a := by omega
  simpa [e] using this
theorem mask_head' (a : Int) (h0 : 0 ≤ a) (h1 : a ≤ 255) (hs : size1 a ≠ 0) : wrap32 (Go.bits .andNot .u8 a (if size1 a = 2 then 192 else if size1 a = 3 then 224 else if size1 a = 4 then 240 else 0)) = body1 a := by
  have := mask_head ⟨a.toNat, by omega⟩
  have e : ((a.toNat : Nat) : Int) = a := by omega
  simp only [e] at this
  exact this hs
theorem head_is (n : Int) : utf_head.f n = some (if n = 2 then 192 else if n = 3 then 224 else if n = 4 then 240 else 0) := by
  unfold utf_head.f
  repeat' split
  all_goals rfl

/-- The bytes that follow, taken into the number. -/
def eat (r : Int) : List Int → Option Int
  | [] => some r
  | b :: t => if cont b then eat (r * 64 + (b - 128)) t else none

theorem next_loop (n : Int) : ∀ (m : Nat) (k : Nat) (l : List Int) (i : Nat) (r : Int), l.length - i = m → m + 1 ≤ k → l.length ≤ 3 → i ≤ l.length → bytes l → 0 ≤ r → r < 64 * 64 ^ i →
    utf_next.l0 k n r l (l.length : Int) (i : Int) = some (match eat r (l.drop i) with | some x => if len x = n then (x, n) else (0, 0) | none => (0, 0)) := by
  intro m
  induction m with
  | zero =>
    intro k l i r hm hk hl hi hb h0 h1
    obtain ⟨k, rfl⟩ : ∃ m, k = m + 1 := ⟨k - 1, by omega⟩
    rw [utf_next.l0, if_neg (by omega), List.drop_eq_nil_of_le (by omega)]
    simp only [eat, len_is, Option.bind_some]
    split <;> rfl
  | succ m ih =>
    intro k l i r hm hk hl hi hb h0 h1
    obtain ⟨k, rfl⟩ : ∃ m, k = m + 1 := ⟨k - 1, by omega⟩
    have hi' : i < l.length := by omega
    have hr : rd l (i : Int) = l[i] := by unfold rd; simp [hi']
    have hbi := hb l[i] (List.getElem_mem hi')
    rw [utf_next.l0, if_pos (by omega), if_pos (by omega), if_pos (by omega), hr, List.drop_eq_getElem_cons hi', eat]
    by_cases hc : cont l[i]
    · rw [if_pos ((mask_cont' _ hbi.1 hbi.2).2 hc), if_pos hc]
      have hc' : 128 ≤ l[i] ∧ l[i] ≤ 191 := hc
      have hsm : r < 64 * 64 ^ 2 := by
        have : (64 : Int) ^ i ≤ 64 ^ 2 := by
          have h2 : i ≤ 2 := by omega
          rcases i with _ | _ | _ | _
          · decide
          · decide
          · decide
          · omega
        omega
      rw [u8_and63 _ hbi.1 (by omega), w32_in (n := l[i] % 64) (by omega) (by omega), w32_in (n := r * 64) (by omega) (by omega), i32_or6 _ _ (by omega) (by omega) (by omega) (by omega) (by omega), w64_in (by omega) (by omega)]
      have e : r * 64 + l[i] % 64 = r * 64 + (l[i] - 128) := by omega
      rw [e]
      have hp : (64 : Int) ^ (i + 1) = 64 ^ i * 64 := Int.pow_succ _ _
      have := ih k l (i + 1) (r * 64 + (l[i] - 128)) (by omega) (by omega) hl (by omega) hb (by omega) (by omega)
      rw [Int.natCast_add] at this
      exact this
    · rw [if_neg (fun h => hc ((mask_cont' _ hbi.1 hbi.2).1 h)), if_neg hc]

theorem next_is (k : Nat) (hk : 10 ≤ k) (l : List Int) (hb : bytes l) (hl : l ≠ []) : utf_next.f k l = some (dec1 l) := by
  obtain ⟨k, rfl⟩ : ∃ m, k = m + 10 := ⟨k - 10, by omega⟩
  obtain ⟨a, t, rfl⟩ : ∃ a t, l = a :: t := by cases l with | nil => exact absurd rfl hl | cons a t => exact ⟨a, t, rfl⟩
  have ha := hb a (by simp)
  have hlen : (((a :: t).length : Nat) : Int) = (t.length : Int) + 1 := by simp
  have hr : rd (a :: t) 0 = a := rfl
  unfold utf_next.f
  rw [if_pos (by omega), hr, size_is _ (by omega)]
  simp only [Option.bind_some]
  by_cases hz : size1 a = 0 ∨ size1 a > ((a :: t).length : Int)
  · have e : (if size1 a = 0 then utf_next.j0 (k + 10) (a :: t) (size1 a) true else utf_next.j0 (k + 10) (a :: t) (size1 a) (decide (size1 a > ((a :: t).length : Int)))) = utf_next.j0 (k + 10) (a :: t) (size1 a) true := by
      split
      · rfl
      · rw [decide_eq_true (by omega)]
    rw [e, utf_next.j0]
    simp only [if_true]
    unfold size1 at hz
    rw [dec1_cons]
    rw [hlen] at hz
    by_cases g1 : a < 128
    · rw [if_pos g1] at hz; omega
    rw [if_neg g1] at hz ⊢
    by_cases g2 : 194 ≤ a ∧ a < 224
    · rw [if_pos g2] at hz ⊢
      have : t = [] := by cases t with | nil => rfl | cons b t => simp at hz; omega
      subst this; rfl
    rw [if_neg g2] at hz ⊢
    by_cases g3 : 224 ≤ a ∧ a < 240
    · rw [if_pos g3] at hz ⊢
      match t, hz with
      | [], _ => rfl
      | [_], _ => rfl
      | b :: c :: t, hz => simp at hz; omega
    rw [if_neg g3] at hz ⊢
    by_cases g4 : 240 ≤ a ∧ a < 245
    · rw [if_pos g4] at hz ⊢
      match t, hz with
      | [], _ => rfl
      | [_], _ => rfl
      | [_, _], _ => rfl
      | b :: c :: d :: t, hz => simp at hz; omega
    rw [if_neg g4]
  · have hz1 : size1 a ≠ 0 := fun h => hz (Or.inl h)
    have hz2 : ¬ size1 a > ((a :: t).length : Int) := fun h => hz (Or.inr h)
    rw [if_neg hz1, decide_eq_false hz2, utf_next.j0]
    simp only [Bool.false_eq_true, if_false, head_is, Option.bind_some]
    have hs : 1 ≤ size1 a ∧ size1 a ≤ 4 := by unfold size1 at *; repeat' split at *; all_goals omega
    rw [if_pos (by omega), if_pos hs.1, if_pos (by omega), hr, mask_head' a ha.1 ha.2 hz1]
    have hdl : (((a :: t).take (size1 a).toNat).drop 1) = t.take ((size1 a).toNat - 1) := by
      obtain ⟨m, hm⟩ : ∃ m, (size1 a).toNat = m + 1 := ⟨(size1 a).toNat - 1, by omega⟩
      rw [hm]; simp
    rw [hdl]
    have hbt : bytes (t.take ((size1 a).toNat - 1)) := fun x hx => hb x (List.mem_cons_of_mem _ (List.mem_of_mem_take hx))
    have hbl : 0 ≤ body1 a ∧ body1 a < 64 ∨ a < 128 := by
      unfold body1
      unfold size1 at hz1
      repeat' split
      all_goals (repeat' split at hz1)
      all_goals omega
    by_cases g1 : a < 128
    · have e1 : size1 a = 1 := by unfold size1; rw [if_pos g1]
      have e2 : body1 a = a := by unfold body1; rw [if_pos g1]
      have e3 : scal a := by unfold scal; omega
      have e4 : len a = 1 := by unfold len; rw [if_pos e3, if_pos g1]
      rw [e1, e2]
      simp only [Int.toNat_one, Nat.sub_self, List.take_zero, List.length_nil]
      rw [utf_next.l0, if_neg (by decide), len_is, e4]
      rw [dec1_cons]
      simp [g1]
    have hb2 : 0 ≤ body1 a ∧ body1 a < 64 := by omega
    have key := next_loop (size1 a) _ (k + 9) (t.take ((size1 a).toNat - 1)) 0 (body1 a) rfl (by rw [List.length_take]; omega) (by rw [List.length_take]; omega) (by omega) hbt hb2.1 (by simpa using hb2.2)
    rw [List.drop_zero] at key
    rw [show ((0 : Nat) : Int) = 0 from rfl] at key
    rw [key]
    unfold size1 at hz2 hs ⊢
    rw [dec1_cons]
    unfold body1
    rw [hlen] at hz2
    rw [if_neg g1] at hz2 hs ⊢
    simp only [if_neg g1]
    by_cases g2 : 194 ≤ a ∧ a < 224
    · simp only [if_pos g2, if_pos g2.2] at hz2 hs ⊢
      match t, hz2 with
      | [], hz2 => simp at hz2
      | b :: t, _ =>
        simp only [show (2 : Int).toNat - 1 = 1 from rfl, List.take_succ_cons, List.take_zero, eat]
        by_cases hc : cont b
        · rw [if_pos hc, if_pos hc]
          have hc' : 128 ≤ b ∧ b ≤ 191 := hc
          have e3 : scal ((a - 192) * 64 + (b - 128)) := by unfold scal; omega
          have e4 : len ((a - 192) * 64 + (b - 128)) = 2 := by unfold len; rw [if_pos e3, if_neg (by omega), if_pos (by omega)]
          simp only [e4, if_true]
        · rw [if_neg hc, if_neg hc]
    simp only [if_neg g2] at hz2 hs ⊢
    have g2' : ¬ a < 224 := by
      intro h
      rw [if_neg (by omega), if_neg (by omega)] at hs
      omega
    by_cases g3 : 224 ≤ a ∧ a < 240
    · simp only [if_pos g3, if_neg g2', if_pos g3.2] at hz2 hs ⊢
      match t, hz2 with
      | [], hz2 => simp at hz2
      | [_], hz2 => simp at hz2
      | b :: c :: t, _ =>
        simp only [show (3 : Int).toNat - 1 = 2 from rfl, List.take_succ_cons, List.take_zero, eat]
        by_cases hc : cont b
        · by_cases hd : cont c
          · rw [if_pos hc, if_pos hd]
            have e : ((a - 224) * 64 + (b - 128)) * 64 + (c - 128) = (a - 224) * 4096 + (b - 128) * 64 + (c - 128) := by omega
            simp only [e, hc, hd, true_and]
          · rw [if_pos hc, if_neg hd, if_neg (by simp [hd])]
        · rw [if_neg hc, if_neg (by simp [hc])]
    simp only [if_neg g3] at hz2 hs ⊢
    have g3' : ¬ a < 240 := by omega
    by_cases g4 : 240 ≤ a ∧ a < 245
    · simp only [if_pos g4, if_neg g2', if_neg g3'] at hz2 hs ⊢
      match t, hz2 with
      | [], hz2 => simp at hz2
      | [_], hz2 => simp at hz2
      | [_, _], hz2 => simp at hz2
      | b :: c :: d :: t, _ =>
        simp only [show (4 : Int).toNat - 1 = 3 from rfl, List.take_succ_cons, List.take_zero, eat]
        by_cases hc : cont b
        · by_cases hd : cont c
          · by_cases he : cont d
            · rw [if_pos hc, if_pos hd, if_pos he]
              have e : (((a - 240) * 64 + (b - 128)) * 64 + (c - 128)) * 64 + (d - 128) = (a - 240) * 262144 + (b - 128) * 4096 + (c - 128) * 64 + (d - 128) := by omega
              simp only [e, hc, hd, he, true_and]
            · rw [if_pos hc, if_pos hd, if_neg he, if_neg (by simp [he])]
          · rw [if_pos hc, if_neg hd, if_neg (by simp [hd])]
        · rw [if_neg hc, if_neg (by simp [hc])]
    simp only [if_neg g4] at hs
    omega

/-- The scalars of bytes, or the place where none begins: with fuel, from a place on. -/
def decL : Nat → List Int → Int → List Int → List Int × Int × Int
  | 0, _, _, _ => ([], 0, 0)
  | n + 1, l, p, acc => if l = [] then (acc, 0, 0) else if (dec1 l).2 = 0 then ([], 2, p) else decL n (l.drop (dec1 l).2.toNat) (p + (dec1 l).2) (acc ++ [(dec1 l).1])

theorem decode_loop : ∀ (n k : Nat) (x acc : List Int) (i : Nat), i ≤ x.length → x.length - i < n → n + 12 ≤ k → acc.length ≤ i → bytes x → x.length ≤ 100000000 →
    utf_Decode.l0 k x acc (i : Int) = some (decL n (x.drop i) (i : Int) acc) := by
  intro n
  induction n with
  | zero => intro k x acc i h1 h2; omega
  | succ n ih =>
    intro k x acc i h1 h2 h3 h4 hb hl
    obtain ⟨k, rfl⟩ : ∃ m, k = m + 1 := ⟨k - 1, by omega⟩
    rw [utf_Decode.l0, decL]
    by_cases hi : i < x.length
    · have hne : x.drop i ≠ [] := by
        intro h
        have := congrArg List.length h
        rw [List.length_drop, List.length_nil] at this
        omega
      rw [if_pos (by omega), if_pos (by omega), if_pos (by omega), Int.toNat_natCast, next_is k (by omega) _ (bytes_drop hb i) hne, if_neg hne]
      simp only [Option.bind_some]
      by_cases hz : (dec1 (x.drop i)).2 = 0
      · rw [if_pos hz, if_pos hz]
      · rw [if_neg hz, if_neg hz, if_pos (by omega)]
        have hr := dec1_range (x.drop i)
        rw [List.length_drop] at hr
        rw [w64_in (by omega) (by omega)]
        have e : (i : Int) + (dec1 (x.drop i)).2 = ((i + (dec1 (x.drop i)).2.toNat : Nat) : Int) := by omega
        rw [List.drop_drop, e]
        exact ih k x _ _ (by omega) (by omega) (by omega) (by simp only [List.length_append, List.length_cons, List.length_nil]; omega) hb hl
    · rw [if_neg (by omega), if_pos (List.drop_eq_nil_of_le (by omega))]

theorem decode_is (k : Nat) (x : List Int) (hk : x.length + 14 ≤ k) (hb : bytes x) (hl : x.length ≤ 100000000) : utf_Decode.f k x = some (decL (x.length + 1) x 0 []) := by
  unfold utf_Decode.f
  exact decode_loop (x.length + 1) k x [] 0 (by omega) (by omega) (by omega) (by simp) hb hl

theorem answers_is (k : Nat) (hk : 20 ≤ k) : amanuensislaw01_answers.f k = some true := by
  unfold amanuensislaw01_answers.f
  rw [decode_is k [195, 169] (by simp; omega) (by intro x hx; simp at hx; omega) (by simp), len_is]
  have e : decL 3 [195, 169] 0 [] = ([233], 0, 0) := by decide +kernel
  have e2 : len 19968 = 3 := by decide
  simp only [List.length_cons, List.length_nil, Nat.zero_add, e, e2, Option.bind_some]
  decide

theorem runes_loop (l : List Int) (hn : l.length ≤ 100000000) (d : Nat) : ∀ (k : Nat) (i : Int), 0 ≤ i → (l.length : Int) - i ≤ d → d < k → amanuensisref01_Runes.l0 k l l i = some true := by
  induction d with
  | zero =>
    intro k i h0 hd hk
    obtain ⟨k, rfl⟩ : ∃ m, k = m + 1 := ⟨k - 1, by omega⟩
    rw [amanuensisref01_Runes.l0, if_neg (by omega)]
  | succ d ih =>
    intro k i h0 hd hk
    obtain ⟨k, rfl⟩ : ∃ m, k = m + 1 := ⟨k - 1, by omega⟩
    rw [amanuensisref01_Runes.l0]
    by_cases hlt : i < (l.length : Int)
    · simp only [if_pos hlt, if_pos h0, if_true]; rw [w64_in (by omega) (by omega)]
      exact ih k (i + 1) (by omega) (by omega) (by omega)
    · rw [if_neg hlt]
theorem runes_same (k : Nat) (l : List Int) (hk : l.length + 1 ≤ k) (hn : l.length ≤ 100000000) : amanuensisref01_Runes.f k l l = some true := by
  unfold amanuensisref01_Runes.f
  simp only [if_true]
  exact runes_loop l hn l.length k 0 (by omega) (by omega) (by omega)

theorem same_loop (d : Nat) : ∀ (k : Nat) (a b : List Int) (i : Nat), a.length = b.length → a.length ≤ 100000000 → a.length - i ≤ d → i ≤ a.length → d < k →
    amanuensisref01_Same.l0 k a b (i : Int) = some (decide (a.drop i = b.drop i)) := by
  induction d with
  | zero =>
    intro k a b i he hl hd hi hk
    obtain ⟨k, rfl⟩ : ∃ m, k = m + 1 := ⟨k - 1, by omega⟩
    rw [amanuensisref01_Same.l0, if_neg (by omega), List.drop_eq_nil_of_le (by omega), List.drop_eq_nil_of_le (by omega)]
    simp
  | succ d ih =>
    intro k a b i he hl hd hi hk
    obtain ⟨k, rfl⟩ : ∃ m, k = m + 1 := ⟨k - 1, by omega⟩
    rw [amanuensisref01_Same.l0]
    by_cases hlt : i < a.length
    · have h1 : rd a (i : Int) = a[i] := by unfold rd; simp [hlt]
      have hlt' : i < b.length := by omega
      have h2 : rd b (i : Int) = b[i] := by unfold rd; simp [hlt']
      rw [if_pos (by omega), if_pos (by omega), if_pos (by omega), h1, h2, List.drop_eq_getElem_cons hlt, List.drop_eq_getElem_cons hlt']
      by_cases e : a[i] = b[i]
      · rw [if_pos e, w64_in (by omega) (by omega)]
        have := ih k a b (i + 1) he hl (by omega) (by omega) (by omega)
        rw [Int.natCast_add] at this
        rw [show ((i : Int) + 1) = (i : Int) + ((1 : Nat) : Int) from rfl, this]
        simp only [List.cons.injEq, e, true_and]
      · rw [if_neg e]
        simp only [List.cons.injEq, e, false_and, decide_false]
    · rw [if_neg (by omega), List.drop_eq_nil_of_le (by omega), List.drop_eq_nil_of_le (by omega)]
      simp
theorem same_is (k : Nat) (a b : List Int) (hk : a.length + 1 ≤ k) (hl : a.length ≤ 100000000) : amanuensisref01_Same.f k a b = some (decide (a = b)) := by
  unfold amanuensisref01_Same.f
  by_cases h : a.length = b.length
  · rw [if_pos (by omega)]
    have := same_loop a.length k a b 0 h hl (by omega) (by omega) (by omega)
    simpa using this
  · rw [if_neg (by omega)]
    have : a ≠ b := fun e => h (by rw [e])
    simp [this]

theorem ref_scalar_is (r : Int) : amanuensisref01_Scalar.f r = some (decide (scal r)) := by
  unfold amanuensisref01_Scalar.f
  by_cases h : scal r
  · rw [decide_eq_true h]
    unfold scal at h
    rw [if_pos (by omega), if_pos (by omega)]
    split
    · rw [decide_eq_false (by omega)]; rfl
    · rfl
  · rw [decide_eq_false h]
    unfold scal at h
    split
    · split
      · rw [if_pos (by omega), decide_eq_true (by omega)]; rfl
      · rfl
    · rfl

theorem ref_len_is (k : Nat) (hk : 1 ≤ k) (r : Int) : amanuensisref01_Len.f k r = some (len r) := by
  obtain ⟨k, rfl⟩ : ∃ m, k = m + 1 := ⟨k - 1, by omega⟩
  unfold amanuensisref01_Len.f len
  rw [ref_scalar_is]
  by_cases h : scal r
  · simp only [h, decide_true, Option.bind_some, if_true]
    by_cases h1 : r ≥ 128
    · rw [if_pos h1, if_neg (by omega), amanuensisref01_Len.j0]
      by_cases h2 : r ≥ 2048
      · rw [if_pos h2]
        by_cases h3 : r ≥ 65536
        · rw [if_pos h3, if_neg (by omega), if_neg (by omega)]
        · rw [if_neg h3, if_neg (by omega), if_pos (by omega)]
      · rw [if_neg h2, if_neg (by omega), if_pos (by omega)]
    · rw [if_neg h1, if_pos (by omega), amanuensisref01_Len.j0, if_neg (by omega), if_neg (by omega)]
  · simp only [h, decide_false, Option.bind_some, Bool.false_eq_true, if_false]

theorem ref_one_is (k : Nat) (hk : 1 ≤ k) (r : Int) : amanuensisref01_One.f k r = some (enc r) := by
  unfold amanuensisref01_One.f
  rw [ref_len_is k hk]
  simp only [Option.bind_some]
  unfold len enc
  by_cases h : scal r
  · have h' : 0 ≤ r ∧ r ≤ 1114111 := by unfold scal at h; omega
    rw [if_pos h, if_pos h]
    by_cases h1 : r < 128
    · rw [if_pos h1, if_pos h1]
      simp (disch := omega) only [w64_in, if_true]
      rw [Int.emod_eq_of_lt (by omega) (by omega)]
    · rw [if_neg h1, if_neg h1]
      by_cases h2 : r < 2048
      · rw [if_pos h2, if_pos h2, if_neg (by decide), if_pos rfl]
        simp (disch := omega) only [w64_in, Int.tdiv_eq_ediv_of_nonneg, Int.tmod_eq_emod_of_nonneg]
        rw [Int.emod_eq_of_lt (a := 192 + r / 64) (by omega) (by omega), Int.emod_eq_of_lt (a := 128 + r % 64) (by omega) (by omega)]
      · rw [if_neg h2, if_neg h2]
        by_cases h3 : r < 65536
        · rw [if_pos h3, if_pos h3, if_neg (by decide), if_neg (by decide), if_pos rfl]
          simp (disch := omega) only [w64_in, Int.tdiv_eq_ediv_of_nonneg, Int.tmod_eq_emod_of_nonneg]
          rw [Int.emod_eq_of_lt (a := 224 + r / 4096) (by omega) (by omega), Int.emod_eq_of_lt (a := 128 + r / 64 % 64) (by omega) (by omega), Int.emod_eq_of_lt (a := 128 + r % 64) (by omega) (by omega)]
        · rw [if_neg h3, if_neg h3, if_neg (by decide), if_neg (by decide), if_neg (by decide), if_pos rfl]
          simp (disch := omega) only [w64_in, Int.tdiv_eq_ediv_of_nonneg, Int.tmod_eq_emod_of_nonneg]
          rw [Int.emod_eq_of_lt (a := 240 + r / 262144) (by omega) (by omega), Int.emod_eq_of_lt (a := 128 + r / 4096 % 64) (by omega) (by omega), Int.emod_eq_of_lt (a := 128 + r / 64 % 64) (by omega) (by omega), Int.emod_eq_of_lt (a := 128 + r % 64) (by omega) (by omega)]
  · rw [if_neg h, if_neg h]
    simp

theorem first_j2 (k : Nat) (hk : 10 ≤ k) (l : List Int) (n x : Int) (h1 : 1 ≤ n) (h4 : n ≤ 4) (hl : n ≤ l.length) :
    amanuensisref01_first.j2 (k + 1) l n x = if len x = n ∧ enc x = l.take n.toNat then some (x, n) else amanuensisref01_first.l0 k l (n + 1) := by
  rw [amanuensisref01_first.j2, w64_in (n := n + 1) (by omega) (by omega)]
  by_cases hs : scal x
  · have h' : 0 ≤ x ∧ x ≤ 1114111 := by unfold scal at hs; omega
    rw [if_pos (by omega), if_pos (by omega), w32_in (n := x) (by omega) (by omega), ref_len_is k (by omega), ref_one_is k (by omega)]
    simp only [Option.bind_some]
    by_cases e : len x = n
    · have el := enc_len x
      have er := len_range x
      rw [if_pos e, if_pos (by omega), if_pos hl, same_is k _ _ (by omega) (by omega)]
      simp only [Option.bind_some, decide_eq_true_eq]
      by_cases g : enc x = l.take n.toNat
      · rw [if_pos g, if_pos ⟨e, g⟩]
      · rw [if_neg g, if_neg (fun hh => g hh.2)]
    · rw [if_neg e, if_neg (fun hh => e hh.1)]
  · have e : len x = 0 := by unfold len; rw [if_neg hs]
    have rhs : (if len x = n ∧ enc x = l.take n.toNat then some (x, n) else amanuensisref01_first.l0 k l (n + 1)) = amanuensisref01_first.l0 k l (n + 1) := if_neg (fun hh => by omega)
    rw [rhs]
    by_cases a1 : x ≥ 0
    · by_cases a2 : x < 1114112
      · rw [if_pos a1, if_pos a2, w32_in (by omega) (by omega), ref_len_is k (by omega), e]
        simp only [Option.bind_some]
        rw [if_neg (by omega)]
      · rw [if_pos a1, if_neg a2]
    · rw [if_neg a1]

/-- What the trial of n bytes says. -/
theorem try1 (a : Int) (ha : 0 ≤ a ∧ a ≤ 255) : (len a = 1 ∧ enc a = [a]) ↔ a < 128 := by
  constructor
  · intro h; have := len_cases a; omega
  · intro h; exact enc_1 ⟨ha.1, h⟩
theorem try2 (a b : Int) (ha : 0 ≤ a ∧ a ≤ 255) (hb : 0 ≤ b ∧ b ≤ 255) : (len ((a - 192) * 64 + b - 128) = 2 ∧ enc ((a - 192) * 64 + b - 128) = [a, b]) ↔ (194 ≤ a ∧ a < 224 ∧ cont b) := by
  obtain ⟨x, hx⟩ : ∃ x, x = (a - 192) * 64 + b - 128 := ⟨_, rfl⟩
  rw [← hx]
  unfold cont
  constructor
  · intro ⟨h1, h2⟩
    have h3 : 128 ≤ x ∧ x < 2048 := by have := len_cases x; omega
    rw [(enc_2 h3).2] at h2
    simp only [List.cons.injEq, and_true] at h2
    omega
  · intro h
    have h3 : 128 ≤ x ∧ x < 2048 := by omega
    refine ⟨(enc_2 h3).1, ?_⟩
    rw [(enc_2 h3).2]
    simp only [List.cons.injEq, and_true]
    omega
theorem try3 (a b c : Int) (ha : 0 ≤ a ∧ a ≤ 255) (hb : 0 ≤ b ∧ b ≤ 255) (hc : 0 ≤ c ∧ c ≤ 255) :
    (len ((a - 224) * 4096 + (b - 128) * 64 + c - 128) = 3 ∧ enc ((a - 224) * 4096 + (b - 128) * 64 + c - 128) = [a, b, c]) ↔ (224 ≤ a ∧ a < 240 ∧ cont b ∧ cont c ∧ len ((a - 224) * 4096 + (b - 128) * 64 + (c - 128)) = 3) := by
  obtain ⟨x, hx⟩ : ∃ x, x = (a - 224) * 4096 + (b - 128) * 64 + c - 128 := ⟨_, rfl⟩
  have hy : (a - 224) * 4096 + (b - 128) * 64 + (c - 128) = x := by omega
  rw [← hx, hy]
  unfold cont
  by_cases h : len x = 3
  · have h3 : (2048 ≤ x ∧ x < 65536) ∧ scal x := by
      rcases len_cases x with h' | h' | h' | h' | h'
      · omega
      · omega
      · omega
      · exact ⟨⟨h'.2.1, h'.2.2.1⟩, h'.1⟩
      · omega
    rw [(enc_3 h3.1 h3.2).2]
    simp only [List.cons.injEq, and_true, h, true_and]
    omega
  · constructor
    · intro hh; exact absurd hh.1 h
    · intro hh; exact absurd hh.2.2.2.2 h
theorem try4 (a b c d : Int) (ha : 0 ≤ a ∧ a ≤ 255) (hb : 0 ≤ b ∧ b ≤ 255) (hc : 0 ≤ c ∧ c ≤ 255) (hd : 0 ≤ d ∧ d ≤ 255) :
    (len ((a - 240) * 262144 + (b - 128) * 4096 + (c - 128) * 64 + d - 128) = 4 ∧ enc ((a - 240) * 262144 + (b - 128) * 4096 + (c - 128) * 64 + d - 128) = [a, b, c, d]) ↔
      (240 ≤ a ∧ a < 245 ∧ cont b ∧ cont c ∧ cont d ∧ len ((a - 240) * 262144 + (b - 128) * 4096 + (c - 128) * 64 + (d - 128)) = 4) := by
  obtain ⟨x, hx⟩ : ∃ x, x = (a - 240) * 262144 + (b - 128) * 4096 + (c - 128) * 64 + d - 128 := ⟨_, rfl⟩
  have hy : (a - 240) * 262144 + (b - 128) * 4096 + (c - 128) * 64 + (d - 128) = x := by omega
  rw [← hx, hy]
  unfold cont
  by_cases h : len x = 4
  · have h3 : 65536 ≤ x ∧ x ≤ 1114111 := by have := len_cases x; omega
    rw [(enc_4 h3).2]
    simp only [List.cons.injEq, and_true, h, true_and]
    omega
  · constructor
    · intro hh; exact absurd hh.1 h
    · intro hh; exact absurd hh.2.2.2.2.2 h

theorem first_end (k : Nat) (l : List Int) (n : Int) (h : n = 5 ∨ (n ≤ 4 ∧ (l.length : Int) < n)) : amanuensisref01_first.l0 (k + 2) l n = some (0, 0) := by
  rw [amanuensisref01_first.l0]
  have e : (if n ≤ 4 then amanuensisref01_first.j1 (k + 1) l n (decide (n ≤ (l.length : Int))) else amanuensisref01_first.j1 (k + 1) l n false) = amanuensisref01_first.j1 (k + 1) l n false := by
    split
    · rw [decide_eq_false (by omega)]
    · rfl
  rw [e, amanuensisref01_first.j1, if_neg (by decide)]
theorem first_go (k : Nat) (l : List Int) (n : Int) (h : n ≤ 4) (hl : n ≤ (l.length : Int)) : amanuensisref01_first.l0 (k + 1) l n = amanuensisref01_first.j1 k l n true := by
  rw [amanuensisref01_first.l0, if_pos h, decide_eq_true hl]

theorem first_is (k : Nat) (hk : 40 ≤ k) (l : List Int) (hb : bytes l) (hl : l ≠ []) : amanuensisref01_first.f k l = some (dec1 l) := by
  obtain ⟨k, rfl⟩ : ∃ m, k = m + 40 := ⟨k - 40, by omega⟩
  unfold amanuensisref01_first.f
  obtain ⟨a, t, rfl⟩ : ∃ a t, l = a :: t := by cases l with | nil => exact absurd rfl hl | cons a t => exact ⟨a, t, rfl⟩
  have ha := hb a (by simp)
  rw [first_go _ _ _ (by decide) (by simp <;> omega), amanuensisref01_first.j1, if_pos rfl, if_pos rfl, if_pos (by simp <;> omega)]
  have r0 : rd (a :: t) 0 = a := rfl
  rw [r0, w64_in (by omega) (by omega), first_j2 _ (by omega) _ _ _ (by decide) (by decide) (by simp <;> omega)]
  rw [show (a :: t).take (1 : Int).toNat = [a] from rfl, dec1_cons, show ((1 : Int) + 1) = 2 from rfl]
  by_cases c1 : a < 128
  · rw [if_pos ((try1 a ha).2 c1), if_pos c1]
  rw [if_neg (fun h => c1 ((try1 a ha).1 h)), if_neg c1]
  match t, hb with
  | [], _ =>
    rw [first_end _ _ _ (Or.inr ⟨by decide, by simp⟩)]
    simp
  | b :: t, hb =>
    have hbb := hb b (by simp)
    have r1 : rd (a :: b :: t) 1 = b := rfl
    have r0 : rd (a :: b :: t) 0 = a := rfl
    rw [first_go _ _ _ (by decide) (by simp <;> omega), amanuensisref01_first.j1, if_pos rfl, if_neg (by decide), if_pos rfl, if_pos (by simp <;> omega), if_pos (by simp <;> omega)]
    rw [r0, r1]
    simp (disch := omega) only [w64_in]
    rw [first_j2 _ (by omega) _ _ _ (by decide) (by decide) (by simp <;> omega)]
    rw [show (a :: b :: t).take (2 : Int).toNat = [a, b] from rfl, show ((2 : Int) + 1) = 3 from rfl]
    by_cases c2 : 194 ≤ a ∧ a < 224
    · simp only [if_pos c2]
      by_cases d2 : cont b
      · rw [if_pos ((try2 a b ha hbb).2 ⟨c2.1, c2.2, d2⟩), if_pos d2]
        congr 2; omega
      · rw [if_neg (fun h => d2 ((try2 a b ha hbb).1 h).2.2), if_neg d2]
        match t, hb with
        | [], _ => rw [first_end _ _ _ (Or.inr ⟨by decide, by simp⟩)]
        | c :: t, hb =>
          have hbc := hb c (by simp)
          have r2 : rd (a :: b :: c :: t) 2 = c := rfl
          have r1 : rd (a :: b :: c :: t) 1 = b := rfl
          have r0 : rd (a :: b :: c :: t) 0 = a := rfl
          rw [first_go _ _ _ (by decide) (by simp <;> omega), amanuensisref01_first.j1, if_pos rfl, if_neg (by decide), if_neg (by decide), if_pos rfl, if_pos (by simp <;> omega), if_pos (by simp <;> omega), if_pos (by simp <;> omega)]
          rw [r0, r1, r2]
          simp (disch := omega) only [w64_in]
          rw [first_j2 _ (by omega) _ _ _ (by decide) (by decide) (by simp <;> omega)]
          rw [show (a :: b :: c :: t).take (3 : Int).toNat = [a, b, c] from rfl, show ((3 : Int) + 1) = 4 from rfl]
          rw [if_neg (fun h => by have := (try3 a b c ha hbb hbc).1 h; omega)]
          match t, hb with
          | [], _ => rw [first_end _ _ _ (Or.inr ⟨by decide, by simp⟩)]
          | d :: t, hb =>
            have hbd := hb d (by simp)
            have r3 : rd (a :: b :: c :: d :: t) 3 = d := rfl
            have r2 : rd (a :: b :: c :: d :: t) 2 = c := rfl
            have r1 : rd (a :: b :: c :: d :: t) 1 = b := rfl
            have r0 : rd (a :: b :: c :: d :: t) 0 = a := rfl
            rw [first_go _ _ _ (by decide) (by simp <;> omega), amanuensisref01_first.j1, if_pos rfl, if_neg (by decide), if_neg (by decide), if_neg (by decide), if_pos rfl, if_pos (by simp <;> omega), if_pos (by simp <;> omega), if_pos (by simp <;> omega), if_pos (by simp <;> omega)]
            rw [r0, r1, r2, r3]
            simp (disch := omega) only [w64_in]
            rw [first_j2 _ (by omega) _ _ _ (by decide) (by decide) (by simp <;> omega)]
            rw [show (a :: b :: c :: d :: t).take (4 : Int).toNat = [a, b, c, d] from rfl, show ((4 : Int) + 1) = 5 from rfl]
            rw [if_neg (fun h => by have := (try4 a b c d ha hbb hbc hbd).1 h; omega)]
            exact first_end _ _ _ (Or.inl rfl)
    · simp only [if_neg c2]
      rw [if_neg (fun h => c2 ⟨((try2 a b ha hbb).1 h).1, ((try2 a b ha hbb).1 h).2.1⟩)]
      match t, hb with
      | [], _ =>
        rw [first_end _ _ _ (Or.inr ⟨by decide, by simp⟩)]
        simp
      | c :: t, hb =>
        have hbc := hb c (by simp)
        have r2 : rd (a :: b :: c :: t) 2 = c := rfl
        have r1 : rd (a :: b :: c :: t) 1 = b := rfl
        have r0 : rd (a :: b :: c :: t) 0 = a := rfl
        rw [first_go _ _ _ (by decide) (by simp <;> omega), amanuensisref01_first.j1, if_pos rfl, if_neg (by decide), if_neg (by decide), if_pos rfl, if_pos (by simp <;> omega), if_pos (by simp <;> omega), if_pos (by simp <;> omega)]
        rw [r0, r1, r2]
        simp (disch := omega) only [w64_in]
        rw [first_j2 _ (by omega) _ _ _ (by decide) (by decide) (by simp <;> omega)]
        rw [show (a :: b :: c :: t).take (3 : Int).toNat = [a, b, c] from rfl, show ((3 : Int) + 1) = 4 from rfl]
        by_cases c3 : 224 ≤ a ∧ a < 240
        · simp only [if_pos c3]
          by_cases d3 : cont b ∧ cont c ∧ len ((a - 224) * 4096 + (b - 128) * 64 + (c - 128)) = 3
          · rw [if_pos ((try3 a b c ha hbb hbc).2 ⟨c3.1, c3.2, d3⟩), if_pos d3]
            congr 2; omega
          · rw [if_neg (fun h => d3 ((try3 a b c ha hbb hbc).1 h).2.2), if_neg d3]
            match t, hb with
            | [], _ => rw [first_end _ _ _ (Or.inr ⟨by decide, by simp⟩)]
            | d :: t, hb =>
              have hbd := hb d (by simp)
              have r3 : rd (a :: b :: c :: d :: t) 3 = d := rfl
              have r2 : rd (a :: b :: c :: d :: t) 2 = c := rfl
              have r1 : rd (a :: b :: c :: d :: t) 1 = b := rfl
              have r0 : rd (a :: b :: c :: d :: t) 0 = a := rfl
              rw [first_go _ _ _ (by decide) (by simp <;> omega), amanuensisref01_first.j1, if_pos rfl, if_neg (by decide), if_neg (by decide), if_neg (by decide), if_pos rfl, if_pos (by simp <;> omega), if_pos (by simp <;> omega), if_pos (by simp <;> omega), if_pos (by simp <;> omega)]
              rw [r0, r1, r2, r3]
              simp (disch := omega) only [w64_in]
              rw [first_j2 _ (by omega) _ _ _ (by decide) (by decide) (by simp <;> omega)]
              rw [show (a :: b :: c :: d :: t).take (4 : Int).toNat = [a, b, c, d] from rfl, show ((4 : Int) + 1) = 5 from rfl]
              rw [if_neg (fun h => by have := (try4 a b c d ha hbb hbc hbd).1 h; omega)]
              exact first_end _ _ _ (Or.inl rfl)
        · simp only [if_neg c3]
          rw [if_neg (fun h => c3 ⟨((try3 a b c ha hbb hbc).1 h).1, ((try3 a b c ha hbb hbc).1 h).2.1⟩)]
          match t, hb with
          | [], _ =>
            rw [first_end _ _ _ (Or.inr ⟨by decide, by simp⟩)]
            simp
          | d :: t, hb =>
            have hbd := hb d (by simp)
            have r3 : rd (a :: b :: c :: d :: t) 3 = d := rfl
            have r2 : rd (a :: b :: c :: d :: t) 2 = c := rfl
            have r1 : rd (a :: b :: c :: d :: t) 1 = b := rfl
            have r0 : rd (a :: b :: c :: d :: t) 0 = a := rfl
            rw [first_go _ _ _ (by decide) (by simp <;> omega), amanuensisref01_first.j1, if_pos rfl, if_neg (by decide), if_neg (by decide), if_neg (by decide), if_pos rfl, if_pos (by simp <;> omega), if_pos (by simp <;> omega), if_pos (by simp <;> omega), if_pos (by simp <;> omega)]
            rw [r0, r1, r2, r3]
            simp (disch := omega) only [w64_in]
            rw [first_j2 _ (by omega) _ _ _ (by decide) (by decide) (by simp <;> omega)]
            rw [show (a :: b :: c :: d :: t).take (4 : Int).toNat = [a, b, c, d] from rfl, show ((4 : Int) + 1) = 5 from rfl]
            by_cases c4 : 240 ≤ a ∧ a < 245
            · simp only [if_pos c4]
              by_cases d4 : cont b ∧ cont c ∧ cont d ∧ len ((a - 240) * 262144 + (b - 128) * 4096 + (c - 128) * 64 + (d - 128)) = 4
              · rw [if_pos ((try4 a b c d ha hbb hbc hbd).2 ⟨c4.1, c4.2, d4⟩), if_pos d4]
                congr 2; omega
              · rw [if_neg (fun h => d4 ((try4 a b c d ha hbb hbc hbd).1 h).2.2), if_neg d4]
                exact first_end _ _ _ (Or.inl rfl)
            · simp only [if_neg c4]
              rw [if_neg (fun h => c4 ⟨((try4 a b c d ha hbb hbc hbd).1 h).1, ((try4 a b c d ha hbb hbc hbd).1 h).2.1⟩)]
              exact first_end _ _ _ (Or.inl rfl)

theorem ref_decode_loop : ∀ (n k : Nat) (x acc : List Int) (i : Nat), i ≤ x.length → x.length - i < n → n + 45 ≤ k → acc.length ≤ i → bytes x → x.length ≤ 100000000 →
    amanuensisref01_Decode.l0 k x acc (i : Int) = some (decL n (x.drop i) (i : Int) acc) := by
  intro n
  induction n with
  | zero => intro k x acc i h1 h2; omega
  | succ n ih =>
    intro k x acc i h1 h2 h3 h4 hb hl
    obtain ⟨k, rfl⟩ : ∃ m, k = m + 1 := ⟨k - 1, by omega⟩
    rw [amanuensisref01_Decode.l0, decL]
    by_cases hi : i < x.length
    · have hne : x.drop i ≠ [] := by
        intro h
        have := congrArg List.length h
        rw [List.length_drop, List.length_nil] at this
        omega
      rw [if_pos (by omega), if_pos (by omega), if_pos (by omega), Int.toNat_natCast, first_is k (by omega) _ (bytes_drop hb i) hne, if_neg hne]
      simp only [Option.bind_some]
      by_cases hz : (dec1 (x.drop i)).2 = 0
      · rw [if_pos hz, if_pos hz]
      · rw [if_neg hz, if_neg hz, if_pos (by omega)]
        have hr := dec1_range (x.drop i)
        rw [List.length_drop] at hr
        rw [w64_in (by omega) (by omega)]
        have e : (i : Int) + (dec1 (x.drop i)).2 = ((i + (dec1 (x.drop i)).2.toNat : Nat) : Int) := by omega
        rw [List.drop_drop, e]
        exact ih k x _ _ (by omega) (by omega) (by omega) (by simp only [List.length_append, List.length_cons, List.length_nil]; omega) hb hl
    · rw [if_neg (by omega), if_pos (List.drop_eq_nil_of_le (by omega))]

theorem ref_decode_is (k : Nat) (x : List Int) (hk : x.length + 50 ≤ k) (hb : bytes x) (hl : x.length ≤ 100000000) : amanuensisref01_Decode.f k x = some (decL (x.length + 1) x 0 []) := by
  unfold amanuensisref01_Decode.f
  exact ref_decode_loop (x.length + 1) k x [] 0 (by omega) (by omega) (by omega) (by simp) hb hl

theorem decL_len : ∀ (n : Nat) (l : List Int) (p : Int) (acc : List Int), (decL n l p acc).1.length ≤ acc.length + n := by
  intro n
  induction n with
  | zero => intro l p acc; simp [decL]
  | succ n ih =>
    intro l p acc
    rw [decL]
    split
    · simp
    · split
      · simp
      · have := ih (l.drop (dec1 l).2.toNat) (p + (dec1 l).2) (acc ++ [(dec1 l).1])
        simp only [List.length_append, List.length_cons, List.length_nil] at this
        omega

theorem UtfDecodes : amanuensislaw01_UtfDecodes.Pure := by
  intro l _ _ hw
  have hb : bytes l := fun x hx => u8_wf (hw x hx)
  refine ⟨l.length + 100, ?_⟩
  unfold amanuensislaw01_UtfDecodes.f
  rw [answers_is _ (by omega)]
  by_cases h : (l.length : Int) > 3000
  · rw [if_pos h]; rfl
  rw [if_neg h]
  simp only [Option.bind_some, List.nil_append, List.length_nil, Nat.zero_add]
  rw [if_pos (by omega), decode_is _ l (by omega) hb (by omega), ref_decode_is _ l (by omega) hb (by omega)]
  simp only [Option.bind_some, beq_self_eq_true, Bool.and_self, if_true]
  have := decL_len (l.length + 1) l 0 []
  simp only [List.length_nil] at this
  rw [runes_same _ _ (by omega) (by omega)]
  rfl

end Go.Proofs.Ytmebmigolckeiaa.Pure
