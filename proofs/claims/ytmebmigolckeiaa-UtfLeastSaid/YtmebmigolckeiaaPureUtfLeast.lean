/- The statement UtfLeast of layer 1, over numbers and lists alone: no character has other bytes than its own: longer ones, halves of pairs, and numbers beyond are told as none at their first byte.
   Conditions: none; for every number of the kind uint32 and every size of the kind uint8. -/
import Derived.Test.YtmebmigolckeiaaPUtfLeastx3
namespace Go.Proofs.Ytmebmigolckeiaa.Pure
open Go.RowKit Go.Proofs.Ytmebmigolckeiaa.PUtfLeast Go.Proofs.YtmebmigolckeiaaW.PrintWords Go.Proofs.YtmebmigolckeiaaW.PrintLast Go.Proofs.YtmebmigolckeiaaW.PrintMore

theorem w32_in {n : Int} (h1 : -2147483648 ≤ n) (h2 : n ≤ 2147483647) : wrap32 n = n := by unfold wrap32; omega
theorem w64_in {n : Int} (h1 : -9223372036854775 ≤ n) (h2 : n ≤ 9223372036854775) : wrap64 n = n := by unfold wrap64; omega
theorem i32_wf {a : Int} (h : (Lit.int .i32 a).wf = true) : -2147483648 ≤ a ∧ a ≤ 2147483647 := by
  have h' : IntKind.i32.min ≤ a ∧ a ≤ IntKind.i32.max := by simpa [Lit.wf] using h
  have e1 : IntKind.i32.min = -2147483648 := by decide
  have e2 : IntKind.i32.max = 2147483647 := by decide
  omega
theorem u8_wf {a : Int} (h : (Lit.int .u8 a).wf = true) : 0 ≤ a ∧ a ≤ 255 := by
  have h' : IntKind.u8.min ≤ a ∧ a ≤ IntKind.u8.max := by simpa [Lit.wf] using h
  have e1 : IntKind.u8.min = 0 := by decide
  have e2 : IntKind.u8.max = 255 := by decide
  omega
theorem u32_wf {a : Int} (h : (Lit.int .u32 a).wf = true) : 0 ≤ a ∧ a ≤ 4294967295 := by
  have h' : IntKind.u32.min ≤ a ∧ a ≤ IntKind.u32.max := by simpa [Lit.wf] using h
  have e1 : IntKind.u32.min = 0 := by decide
  have e2 : IntKind.u32.max = 4294967295 := by decide
  omega

/-- A scalar. -/
def scal (r : Int) : Prop := 0 ≤ r ∧ r ≤ 1114111 ∧ (r < 55296 ∨ 57343 < r)
instance (r : Int) : Decidable (scal r) := by unfold scal; infer_instance
/-- How many bytes it has. -/
def len (r : Int) : Int := if scal r then (if r < 128 then 1 else if r < 2048 then 2 else if r < 65536 then 3 else 4) else 0
/-- Its bytes. -/
def enc (r : Int) : List Int :=
  if scal r then (if r < 128 then [r] else if r < 2048 then [192 + r / 64, 128 + r % 64] else if r < 65536 then [224 + r / 4096, 128 + r / 64 % 64, 128 + r % 64]
    else [240 + r / 262144, 128 + r / 4096 % 64, 128 + r / 64 % 64, 128 + r % 64]) else []

theorem enc_1 {r : Int} (h : 0 ≤ r ∧ r < 128) : len r = 1 ∧ enc r = [r] := by
  have hs : scal r := by unfold scal; omega
  unfold len enc
  rw [if_pos hs, if_pos hs, if_pos h.2, if_pos h.2]
  exact ⟨rfl, rfl⟩
theorem enc_2 {r : Int} (h : 128 ≤ r ∧ r < 2048) : len r = 2 ∧ enc r = [192 + r / 64, 128 + r % 64] := by
  have hs : scal r := by unfold scal; omega
  unfold len enc
  rw [if_pos hs, if_pos hs, if_neg (by omega), if_pos h.2, if_neg (by omega), if_pos h.2]
  exact ⟨rfl, rfl⟩
theorem enc_3 {r : Int} (h : 2048 ≤ r ∧ r < 65536) (hs : scal r) : len r = 3 ∧ enc r = [224 + r / 4096, 128 + r / 64 % 64, 128 + r % 64] := by
  unfold len enc
  rw [if_pos hs, if_pos hs, if_neg (by omega), if_neg (by omega), if_pos h.2, if_neg (by omega), if_neg (by omega), if_pos h.2]
  exact ⟨rfl, rfl⟩
theorem enc_4 {r : Int} (h : 65536 ≤ r ∧ r ≤ 1114111) : len r = 4 ∧ enc r = [240 + r / 262144, 128 + r / 4096 % 64, 128 + r / 64 % 64, 128 + r % 64] := by
  have hs : scal r := by unfold scal; omega
  unfold len enc
  rw [if_pos hs, if_pos hs, if_neg (by omega), if_neg (by omega), if_neg (by omega), if_neg (by omega), if_neg (by omega), if_neg (by omega)]
  exact ⟨rfl, rfl⟩
theorem enc_0 {r : Int} (h : ¬ scal r) : len r = 0 ∧ enc r = [] := by
  unfold len enc
  rw [if_neg h, if_neg h]
  exact ⟨rfl, rfl⟩
theorem scal_range {r : Int} (h : scal r) : 0 ≤ r ∧ r ≤ 1114111 := by unfold scal at h; omega
/-- By how many bytes it is. -/
theorem len_cases (r : Int) : (¬ scal r ∧ len r = 0) ∨ (scal r ∧ 0 ≤ r ∧ r < 128 ∧ len r = 1) ∨ (scal r ∧ 128 ≤ r ∧ r < 2048 ∧ len r = 2) ∨ (scal r ∧ 2048 ≤ r ∧ r < 65536 ∧ len r = 3) ∨ (scal r ∧ 65536 ≤ r ∧ r ≤ 1114111 ∧ len r = 4) := by
  by_cases hs : scal r
  · have hr := scal_range hs
    by_cases h1 : r < 128
    · exact Or.inr (Or.inl ⟨hs, hr.1, h1, (enc_1 ⟨hr.1, h1⟩).1⟩)
    by_cases h2 : r < 2048
    · exact Or.inr (Or.inr (Or.inl ⟨hs, by omega, h2, (enc_2 ⟨by omega, h2⟩).1⟩))
    by_cases h3 : r < 65536
    · exact Or.inr (Or.inr (Or.inr (Or.inl ⟨hs, by omega, h3, (enc_3 ⟨by omega, h3⟩ hs).1⟩)))
    · exact Or.inr (Or.inr (Or.inr (Or.inr ⟨hs, by omega, hr.2, (enc_4 ⟨by omega, hr.2⟩).1⟩)))
  · exact Or.inl ⟨hs, (enc_0 hs).1⟩
theorem len_range (r : Int) : 0 ≤ len r ∧ len r ≤ 4 := by
  unfold len
  repeat' split
  all_goals omega
theorem enc_len (r : Int) : ((enc r).length : Int) = len r := by
  unfold enc len
  repeat' split
  all_goals rfl

/-- A byte that follows. -/
def cont (b : Int) : Prop := 128 ≤ b ∧ b ≤ 191
instance (b : Int) : Decidable (cont b) := by unfold cont; infer_instance

/-- The scalar that bytes begin with, and how many they are. -/
def dec1 (l : List Int) : Int × Int :=
  match l with
  | [] => (0, 0)
  | a :: t =>
    if a < 128 then (a, 1)
    else if 194 ≤ a ∧ a < 224 then
      (match t with
      | b :: _ => if cont b then ((a - 192) * 64 + (b - 128), 2) else (0, 0)
      | _ => (0, 0))
    else if 224 ≤ a ∧ a < 240 then
      (match t with
      | b :: c :: _ => if cont b ∧ cont c ∧ len ((a - 224) * 4096 + (b - 128) * 64 + (c - 128)) = 3 then ((a - 224) * 4096 + (b - 128) * 64 + (c - 128), 3) else (0, 0)
      | _ => (0, 0))
    else if 240 ≤ a ∧ a < 245 then
      (match t with
      | b :: c :: d :: _ => if cont b ∧ cont c ∧ cont d ∧ len ((a - 240) * 262144 + (b - 128) * 4096 + (c - 128) * 64 + (d - 128)) = 4 then ((a - 240) * 262144 + (b - 128) * 4096 + (c - 128) * 64 + (d - 128), 4) else (0, 0)
      | _ => (0, 0))
    else (0, 0)

theorem dec1_cons (a : Int) (t : List Int) : dec1 (a :: t) =
    ((if a < 128 then (a, 1)
    else if 194 ≤ a ∧ a < 224 then
      (match t with
      | b :: _ => if cont b then ((a - 192) * 64 + (b - 128), 2) else (0, 0)
      | _ => (0, 0))
    else if 224 ≤ a ∧ a < 240 then
      (match t with
      | b :: c :: _ => if cont b ∧ cont c ∧ len ((a - 224) * 4096 + (b - 128) * 64 + (c - 128)) = 3 then ((a - 224) * 4096 + (b - 128) * 64 + (c - 128), 3) else (0, 0)
      | _ => (0, 0))
    else if 240 ≤ a ∧ a < 245 then
      (match t with
      | b :: c :: d :: _ => if cont b ∧ cont c ∧ cont d ∧ len ((a - 240) * 262144 + (b - 128) * 4096 + (c - 128) * 64 + (d - 128)) = 4 then ((a - 240) * 262144 + (b - 128) * 4096 + (c - 128) * 64 + (d - 128), 4) else (0, 0)
      | _ => (0, 0))
    else (0, 0)) : Int × Int) := rfl
theorem dec1_range (l : List Int) : 0 ≤ (dec1 l).2 ∧ (dec1 l).2 ≤ l.length := by
  unfold dec1
  repeat' split
  all_goals first | (simp; done) | (simp only [List.length_cons, List.length_nil, Nat.cast_add, Nat.cast_one]; omega) | (simp only [List.length_cons]; omega)

/-- All bytes. -/
def bytes (l : List Int) : Prop := ∀ x ∈ l, 0 ≤ x ∧ x ≤ 255
theorem bytes_drop {l : List Int} (h : bytes l) (n : Nat) : bytes (l.drop n) := fun x hx => h x (List.mem_of_mem_drop hx)

theorem scalar_is (r : Int) : utf_Scalar.f r = some (decide (scal r)) := by
  unfold utf_Scalar.f
  by_cases h : scal r
  · rw [decide_eq_true h]
    unfold scal at h
    rw [if_pos (by omega), if_pos (by omega)]
    split
    · rfl
    · rw [decide_eq_true (by omega)]
  · rw [decide_eq_false h]
    unfold scal at h
    split
    · split
      · rw [if_neg (by omega), decide_eq_false (by omega)]
      · rfl
    · rfl

theorem len_is (r : Int) : utf_Len.f r = some (len r) := by
  unfold utf_Len.f len
  rw [scalar_is]
  by_cases h : scal r
  · simp only [h, decide_true, Option.bind_some, if_true]
    repeat' split
    all_goals rfl
  · simp only [h, decide_false, Option.bind_some, Bool.false_eq_true, if_false]

/-- What a first byte begins. -/
def size1 (a : Int) : Int := if a < 128 then 1 else if 194 ≤ a ∧ a < 224 then 2 else if 224 ≤ a ∧ a < 240 then 3 else if 240 ≤ a ∧ a < 245 then 4 else 0
theorem size_is (k : Nat) (hk : 3 ≤ k) (a : Int) : utf_size.f k a = some (size1 a) := by
  obtain ⟨k, rfl⟩ : ∃ m, k = m + 3 := ⟨k - 3, by omega⟩
  unfold utf_size.f size1
  by_cases h1 : a < 128
  · rw [if_pos h1, if_pos h1]
  rw [if_neg h1, if_neg h1]
  by_cases h2 : 194 ≤ a ∧ a < 224
  · rw [if_pos h2.1, if_pos h2, decide_eq_true h2.2]; simp only [utf_size.j0, if_true]
  have e : (if a ≥ 194 then (utf_size.j0 (k + 3) a (decide (a < 224))) else (utf_size.j0 (k + 3) a false)) = utf_size.j0 (k + 3) a false := by
    split
    · rw [decide_eq_false (by omega)]
    · rfl
  rw [e, if_neg h2]
  simp only [utf_size.j0, Bool.false_eq_true, if_false]
  by_cases h3 : 224 ≤ a ∧ a < 240
  · rw [if_pos h3.1, if_pos h3, decide_eq_true h3.2]; simp only [utf_size.j1, if_true]
  have e : (if a ≥ 224 then (utf_size.j1 (k + 2) a (decide (a < 240))) else (utf_size.j1 (k + 2) a false)) = utf_size.j1 (k + 2) a false := by
    split
    · rw [decide_eq_false (by omega)]
    · rfl
  rw [e, if_neg h3]
  simp only [utf_size.j1, Bool.false_eq_true, if_false]
  by_cases h4 : 240 ≤ a
  · rw [if_pos h4]
    by_cases h5 : a < 245
    · rw [if_pos h5, if_pos ⟨h4, h5⟩]
    · rw [if_neg h5, if_neg (by omega)]
  · rw [if_neg h4, if_neg (by omega)]

/-- What a first byte's upper bits leave. -/
def body1 (a : Int) : Int := if a < 128 then a else if a < 224 then a - 192 else if a < 240 then a - 224 else a - 240
theorem mask_head : ∀ a : Fin 256, size1 (a.val : Int) ≠ 0 → wrap32 (Go.bits .andNot .u8 (a.val : Int) (if size1 (a.val : Int) = 2 then 192 else if size1 (a.val : Int) = 3 then 224 else if size1 (a.val : Int) = 4 then 240 else 0)) = body1 (a.val : Int) := by decide +kernel
theorem mask_cont : ∀ a : Fin 256, Go.bits .andNot .u8 (a.val : Int) 63 = 128 ↔ cont (a.val : Int) := by decide +kernel
theorem mask_cont' (a : Int) (h0 : 0 ≤ a) (h1 : a ≤ 255) : Go.bits .andNot .u8 a 63 = 128 ↔ cont a := by
  have := mask_cont ⟨a.toNat, by omega⟩
  have e : ((a.toNat : Nat) : Int) = a := by omega
  simpa [e] using this
theorem mask_head' (a : Int) (h0 : 0 ≤ a) (h1 : a ≤ 255) (hs : size1 a ≠ 0) : wrap32 (Go.bits .andNot .u8 a (if size1 a = 2 then 192 else if size1 a = 3 then 224 else if size1 a = 4 then 240 else 0)) = body1 a := by
  have := mask_head ⟨a.toNat, by omega⟩
  have e : ((a.toNat : Nat) : Int) = a := by omega
  simp only [e] at this
  exact this hs
theorem head_is (n : Int) : utf_head.f n = some (if n = 2 then 192 else if n = 3 then 224 else if n = 4 then 240 else 0) := by
  unfold utf_head.f
  repeat' split
  all_goals rfl

/-- The bytes that follow, taken into the number. -/
def eat (r : Int) : List Int → Option Int
  | [] => some r
  | b :: t => if cont b then eat (r * 64 + (b - 128)) t else none

theorem next_loop (n : Int) : ∀ (m : Nat) (k : Nat) (l : List Int) (i : Nat) (r : Int), l.length - i = m → m + 1 ≤ k → l.length ≤ 3 → i ≤ l.length → bytes l → 0 ≤ r → r < 64 * 64 ^ i →
    utf_next.l0 k n r l (l.length : Int) (i : Int) = some (match eat r (l.drop i) with | some x => if len x = n then (x, n) else (0, 0) | none => (0, 0)) := by
  intro m
  induction m with
  | zero =>
    intro k l i r hm hk hl hi hb h0 h1
    obtain ⟨k, rfl⟩ : ∃ m, k = m + 1 := ⟨k - 1, by omega⟩
    rw [utf_next.l0, if_neg (by omega), List.drop_eq_nil_of_le (by omega)]
    simp only [eat, len_is, Option.bind_some]
    split <;> rfl
  | succ m ih =>
    intro k l i r hm hk hl hi hb h0 h1
    obtain ⟨k, rfl⟩ : ∃ m, k = m + 1 := ⟨k - 1, by omega⟩
    have hi' : i < l.length := by omega
    have hr : rd l (i : Int) = l[i] := by unfold rd; simp [hi']
    have hbi := hb l[i] (List.getElem_mem hi')
    rw [utf_next.l0, if_pos (by omega), if_pos (by omega), if_pos (by omega), hr, List.drop_eq_getElem_cons hi', eat]
    by_cases hc : cont l[i]
    · rw [if_pos ((mask_cont' _ hbi.1 hbi.2).2 hc), if_pos hc]
      have hc' : 128 ≤ l[i] ∧ l[i] ≤ 191 := hc
      have hsm : r < 64 * 64 ^ 2 := by
        have : (64 : Int) ^ i ≤ 64 ^ 2 := by
          have h2 : i ≤ 2 := by omega
          rcases i with _ | _ | _ | _
          · decide
          · decide
          · decide
          · omega
        omega
      rw [u8_and63 _ hbi.1 (by omega), w32_in (n := l[i] % 64) (by omega) (by omega), w32_in (n := r * 64) (by omega) (by omega), i32_or6 _ _ (by omega) (by omega) (by omega) (by omega) (by omega), w64_in (by omega) (by omega)]
      have e : r * 64 + l[i] % 64 = r * 64 + (l[i] - 128) := by omega
      rw [e]
      have hp : (64 : Int) ^ (i + 1) = 64 ^ i * 64 := Int.pow_succ _ _
      have := ih k l (i + 1) (r * 64 + (l[i] - 128)) (by omega) (by omega) hl (by omega) hb (by omega) (by omega)
      rw [Int.natCast_add] at this
      exact this
    · rw [if_neg (fun h => hc ((mask_cont' _ hbi.1 hbi.2).1 h)), if_neg hc]

theorem next_is (k : Nat) (hk : 10 ≤ k) (l : List Int) (hb : bytes l) (hl : l ≠ []) : utf_next.f k l = some (dec1 l) := by
  obtain ⟨k, rfl⟩ : ∃ m, k = m + 10 := ⟨k - 10, by omega⟩
  obtain ⟨a, t, rfl⟩ : ∃ a t, l = a :: t := by cases l with | nil => exact absurd rfl hl | cons a t => exact ⟨a, t, rfl⟩
  have ha := hb a (by simp)
  have hlen : (((a :: t).length : Nat) : Int) = (t.length : Int) + 1 := by simp
  have hr : rd (a :: t) 0 = a := rfl
  unfold utf_next.f
  rw [if_pos (by omega), hr, size_is _ (by omega)]
  simp only [Option.bind_some]
  by_cases hz : size1 a = 0 ∨ size1 a > ((a :: t).length : Int)
  · have e : (if size1 a = 0 then utf_next.j0 (k + 10) (a :: t) (size1 a) true else utf_next.j0 (k + 10) (a :: t) (size1 a) (decide (size1 a > ((a :: t).length : Int)))) = utf_next.j0 (k + 10) (a :: t) (size1 a) true := by
      split
      · rfl
      · rw [decide_eq_true (by omega)]
    rw [e, utf_next.j0]
    simp only [if_true]
    unfold size1 at hz
    rw [dec1_cons]
    rw [hlen] at hz
    by_cases g1 : a < 128
    · rw [if_pos g1] at hz; omega
    rw [if_neg g1] at hz ⊢
    by_cases g2 : 194 ≤ a ∧ a < 224
    · rw [if_pos g2] at hz ⊢
      have : t = [] := by cases t with | nil => rfl | cons b t => simp at hz; omega
      subst this; rfl
    rw [if_neg g2] at hz ⊢
    by_cases g3 : 224 ≤ a ∧ a < 240
    · rw [if_pos g3] at hz ⊢
      match t, hz with
      | [], _ => rfl
      | [_], _ => rfl
      | b :: c :: t, hz => simp at hz; omega
    rw [if_neg g3] at hz ⊢
    by_cases g4 : 240 ≤ a ∧ a < 245
    · rw [if_pos g4] at hz ⊢
      match t, hz with
      | [], _ => rfl
      | [_], _ => rfl
      | [_, _], _ => rfl
      | b :: c :: d :: t, hz => simp at hz; omega
    rw [if_neg g4]
  · have hz1 : size1 a ≠ 0 := fun h => hz (Or.inl h)
    have hz2 : ¬ size1 a > ((a :: t).length : Int) := fun h => hz (Or.inr h)
    rw [if_neg hz1, decide_eq_false hz2, utf_next.j0]
    simp only [Bool.false_eq_true, if_false, head_is, Option.bind_some]
    have hs : 1 ≤ size1 a ∧ size1 a ≤ 4 := by unfold size1 at *; repeat' split at *; all_goals omega
    rw [if_pos (by omega), if_pos hs.1, if_pos (by omega), hr, mask_head' a ha.1 ha.2 hz1]
    have hdl : (((a :: t).take (size1 a).toNat).drop 1) = t.take ((size1 a).toNat - 1) := by
      obtain ⟨m, hm⟩ : ∃ m, (size1 a).toNat = m + 1 := ⟨(size1 a).toNat - 1, by omega⟩
      rw [hm]; simp
    rw [hdl]
    have hbt : bytes (t.take ((size1 a).toNat - 1)) := fun x hx => hb x (List.mem_cons_of_mem _ (List.mem_of_mem_take hx))
    have hbl : 0 ≤ body1 a ∧ body1 a < 64 ∨ a < 128 := by
      unfold body1
      unfold size1 at hz1
      repeat' split
      all_goals (repeat' split at hz1)
      all_goals omega
    by_cases g1 : a < 128
    · have e1 : size1 a = 1 := by unfold size1; rw [if_pos g1]
      have e2 : body1 a = a := by unfold body1; rw [if_pos g1]
      have e3 : scal a := by unfold scal; omega
      have e4 : len a = 1 := by unfold len; rw [if_pos e3, if_pos g1]
      rw [e1, e2]
      simp only [Int.toNat_one, Nat.sub_self, List.take_zero, List.length_nil]
      rw [utf_next.l0, if_neg (by decide), len_is, e4]
      rw [dec1_cons]
      simp [g1]
    have hb2 : 0 ≤ body1 a ∧ body1 a < 64 := by omega
    have key := next_loop (size1 a) _ (k + 9) (t.take ((size1 a).toNat - 1)) 0 (body1 a) rfl (by rw [List.length_take]; omega) (by rw [List.length_take]; omega) (by omega) hbt hb2.1 (by simpa using hb2.2)
    rw [List.drop_zero] at key
    rw [show ((0 : Nat) : Int) = 0 from rfl] at key
    rw [key]
    unfold size1 at hz2 hs ⊢
    rw [dec1_cons]
    unfold body1
    rw [hlen] at hz2
    rw [if_neg g1] at hz2 hs ⊢
    simp only [if_neg g1]
    by_cases g2 : 194 ≤ a ∧ a < 224
    · simp only [if_pos g2, if_pos g2.2] at hz2 hs ⊢
      match t, hz2 with
      | [], hz2 => simp at hz2
      | b :: t, _ =>
        simp only [show (2 : Int).toNat - 1 = 1 from rfl, List.take_succ_cons, List.take_zero, eat]
        by_cases hc : cont b
        · rw [if_pos hc, if_pos hc]
          have hc' : 128 ≤ b ∧ b ≤ 191 := hc
          have e3 : scal ((a - 192) * 64 + (b - 128)) := by unfold scal; omega
          have e4 : len ((a - 192) * 64 + (b - 128)) = 2 := by unfold len; rw [if_pos e3, if_neg (by omega), if_pos (by omega)]
          simp only [e4, if_true]
        · rw [if_neg hc, if_neg hc]
    simp only [if_neg g2] at hz2 hs ⊢
    have g2' : ¬ a < 224 := by
      intro h
      rw [if_neg (by omega), if_neg (by omega)] at hs
      omega
    by_cases g3 : 224 ≤ a ∧ a < 240
    · simp only [if_pos g3, if_neg g2', if_pos g3.2] at hz2 hs ⊢
      match t, hz2 with
      | [], hz2 => simp at hz2
      | [_], hz2 => simp at hz2
      | b :: c :: t, _ =>
        simp only [show (3 : Int).toNat - 1 = 2 from rfl, List.take_succ_cons, List.take_zero, eat]
        by_cases hc : cont b
        · by_cases hd : cont c
          · rw [if_pos hc, if_pos hd]
            have e : ((a - 224) * 64 + (b - 128)) * 64 + (c - 128) = (a - 224) * 4096 + (b - 128) * 64 + (c - 128) := by omega
            simp only [e, hc, hd, true_and]
          · rw [if_pos hc, if_neg hd, if_neg (by simp [hd])]
        · rw [if_neg hc, if_neg (by simp [hc])]
    simp only [if_neg g3] at hz2 hs ⊢
    have g3' : ¬ a < 240 := by omega
    by_cases g4 : 240 ≤ a ∧ a < 245
    · simp only [if_pos g4, if_neg g2', if_neg g3'] at hz2 hs ⊢
      match t, hz2 with
      | [], hz2 => simp at hz2
      | [_], hz2 => simp at hz2
      | [_, _], hz2 => simp at hz2
      | b :: c :: d :: t, _ =>
        simp only [show (4 : Int).toNat - 1 = 3 from rfl, List.take_succ_cons, List.take_zero, eat]
        by_cases hc : cont b
        · by_cases hd : cont c
          · by_cases he : cont d
            · rw [if_pos hc, if_pos hd, if_pos he]
              have e : (((a - 240) * 64 + (b - 128)) * 64 + (c - 128)) * 64 + (d - 128) = (a - 240) * 262144 + (b - 128) * 4096 + (c - 128) * 64 + (d - 128) := by omega
              simp only [e, hc, hd, he, true_and]
            · rw [if_pos hc, if_pos hd, if_neg he, if_neg (by simp [he])]
          · rw [if_pos hc, if_neg hd, if_neg (by simp [hd])]
        · rw [if_neg hc, if_neg (by simp [hc])]
    simp only [if_neg g4] at hs
    omega

/-- The scalars of bytes, or the place where none begins: with fuel, from a place on. -/
def decL : Nat → List Int → Int → List Int → List Int × Int × Int
  | 0, _, _, _ => ([], 0, 0)
  | n + 1, l, p, acc => if l = [] then (acc, 0, 0) else if (dec1 l).2 = 0 then ([], 2, p) else decL n (l.drop (dec1 l).2.toNat) (p + (dec1 l).2) (acc ++ [(dec1 l).1])

theorem decL_nil (n : Nat) (p : Int) (acc : List Int) : decL (n + 1) [] p acc = (acc, 0, 0) := by rw [decL, if_pos rfl]

theorem decode_loop : ∀ (n k : Nat) (x acc : List Int) (i : Nat), i ≤ x.length → x.length - i < n → n + 12 ≤ k → acc.length ≤ i → bytes x → x.length ≤ 100000000 →
    utf_Decode.l0 k x acc (i : Int) = some (decL n (x.drop i) (i : Int) acc) := by
  intro n
  induction n with
  | zero => intro k x acc i h1 h2; omega
  | succ n ih =>
    intro k x acc i h1 h2 h3 h4 hb hl
    obtain ⟨k, rfl⟩ : ∃ m, k = m + 1 := ⟨k - 1, by omega⟩
    rw [utf_Decode.l0, decL]
    by_cases hi : i < x.length
    · have hne : x.drop i ≠ [] := by
        intro h
        have := congrArg List.length h
        rw [List.length_drop, List.length_nil] at this
        omega
      rw [if_pos (by omega), if_pos (by omega), if_pos (by omega), Int.toNat_natCast, next_is k (by omega) _ (bytes_drop hb i) hne, if_neg hne]
      simp only [Option.bind_some]
      by_cases hz : (dec1 (x.drop i)).2 = 0
      · rw [if_pos hz, if_pos hz]
      · rw [if_neg hz, if_neg hz, if_pos (by omega)]
        have hr := dec1_range (x.drop i)
        rw [List.length_drop] at hr
        rw [w64_in (by omega) (by omega)]
        have e : (i : Int) + (dec1 (x.drop i)).2 = ((i + (dec1 (x.drop i)).2.toNat : Nat) : Int) := by omega
        rw [List.drop_drop, e]
        exact ih k x _ _ (by omega) (by omega) (by omega) (by simp only [List.length_append, List.length_cons, List.length_nil]; omega) hb hl
    · rw [if_neg (by omega), if_pos (List.drop_eq_nil_of_le (by omega))]

theorem decode_is (k : Nat) (x : List Int) (hk : x.length + 14 ≤ k) (hb : bytes x) (hl : x.length ≤ 100000000) : utf_Decode.f k x = some (decL (x.length + 1) x 0 []) := by
  unfold utf_Decode.f
  exact decode_loop (x.length + 1) k x [] 0 (by omega) (by omega) (by omega) (by simp) hb hl

theorem answers_is (k : Nat) (hk : 20 ≤ k) : amanuensislaw01_answers.f k = some true := by
  unfold amanuensislaw01_answers.f
  rw [decode_is k [195, 169] (by simp; omega) (by intro x hx; simp at hx; omega) (by simp), len_is]
  have e : decL 3 [195, 169] 0 [] = ([233], 0, 0) := by decide +kernel
  have e2 : len 19968 = 3 := by decide
  simp only [List.length_cons, List.length_nil, Nat.zero_add, e, e2, Option.bind_some]
  decide

theorem ref_scalar_is (r : Int) : amanuensisref01_Scalar.f r = some (decide (scal r)) := by
  unfold amanuensisref01_Scalar.f
  by_cases h : scal r
  · rw [decide_eq_true h]
    unfold scal at h
    rw [if_pos (by omega), if_pos (by omega)]
    split
    · rw [decide_eq_false (by omega)]; rfl
    · rfl
  · rw [decide_eq_false h]
    unfold scal at h
    split
    · split
      · rw [if_pos (by omega), decide_eq_true (by omega)]; rfl
      · rfl
    · rfl

theorem ref_len_is (k : Nat) (hk : 1 ≤ k) (r : Int) : amanuensisref01_Len.f k r = some (len r) := by
  obtain ⟨k, rfl⟩ : ∃ m, k = m + 1 := ⟨k - 1, by omega⟩
  unfold amanuensisref01_Len.f len
  rw [ref_scalar_is]
  by_cases h : scal r
  · simp only [h, decide_true, Option.bind_some, if_true]
    by_cases h1 : r ≥ 128
    · rw [if_pos h1, if_neg (by omega), amanuensisref01_Len.j0]
      by_cases h2 : r ≥ 2048
      · rw [if_pos h2]
        by_cases h3 : r ≥ 65536
        · rw [if_pos h3, if_neg (by omega), if_neg (by omega)]
        · rw [if_neg h3, if_neg (by omega), if_pos (by omega)]
      · rw [if_neg h2, if_neg (by omega), if_pos (by omega)]
    · rw [if_neg h1, if_pos (by omega), amanuensisref01_Len.j0, if_neg (by omega), if_neg (by omega)]
  · simp only [h, decide_false, Option.bind_some, Bool.false_eq_true, if_false]


theorem least_end (k : Nat) (hk : 40 ≤ k) (x n : Int) (b : List Int) (hb : bytes b) (hl : b.length ≤ 4) (hx : 0 ≤ x ∧ x < 2097152)
    (hd : decL (b.length + 1) b 0 [] = if scal x ∧ len x = n then ([x], 0, 0) else ([], 2, 0)) : amanuensislaw01_UtfLeast.j0 k x b n = some true := by
  obtain ⟨k, rfl⟩ : ∃ m, k = m + 2 := ⟨k - 2, by omega⟩
  rw [amanuensislaw01_UtfLeast.j0, decode_is _ b (by omega) hb (by omega), w32_in (n := x) (by omega) (by omega), ref_scalar_is, ref_len_is _ (by omega), hd]
  by_cases hs : scal x
  · by_cases hn : len x = n
    · simp [hs, hn, amanuensislaw01_UtfLeast.j1, answers_is k (by omega), rd, w32_in (n := x) (by omega) (by omega)]
    · simp [hs, hn, amanuensislaw01_UtfLeast.j1, answers_is k (by omega)]
  · simp [hs, amanuensislaw01_UtfLeast.j1, answers_is k (by omega)]

theorem decL_one (n : Nat) (b : List Int) (r m : Int) (hb : b ≠ []) (h : dec1 b = (r, m)) (hm : m = b.length) : decL (n + 2) b 0 [] = ([r], 0, 0) := by
  have hz : m ≠ 0 := by
    intro e
    apply hb
    cases b with
    | nil => rfl
    | cons x t => simp at hm; omega
  rw [decL, if_neg hb, h]
  simp only
  rw [if_neg hz, List.drop_eq_nil_of_le (by omega), decL_nil]
  rfl
theorem decL_none (n : Nat) (b : List Int) (hb : b ≠ []) (h : dec1 b = (0, 0)) : decL (n + 1) b 0 [] = ([], 2, 0) := by
  rw [decL, if_neg hb, h]
  simp

theorem UtfLeast : amanuensislaw01_UtfLeast.Pure := by
  intro a c ha hc
  have ha' := u32_wf ha
  have hc' := u8_wf hc
  refine ⟨60, ?_⟩
  unfold amanuensislaw01_UtfLeast.f
  obtain ⟨x, hx⟩ : ∃ x, x = a % 2097152 := ⟨_, rfl⟩
  have e0 : wrap64 (Int.tmod a 2097152) = x := by rw [Int.tmod_eq_emod_of_nonneg (by omega), w64_in (by omega) (by omega), hx]
  have hx' : 0 ≤ x ∧ x < 2097152 := by omega
  obtain ⟨m, hm⟩ : ∃ m, m = c % 3 := ⟨_, rfl⟩
  have e1 : wrap64 ((wrap64 (Int.tmod c 3)) + 2) = m + 2 := by
    rw [Int.tmod_eq_emod_of_nonneg (by omega), w64_in (n := c % 3) (by omega) (by omega), w64_in (by omega) (by omega), hm]
  have hm' : 0 ≤ m ∧ m ≤ 2 := by omega
  rw [e0, e1]
  clear e0 e1 hm ha hc ha' hc' hx
  by_cases m0 : m = 0
  · subst m0
    rw [if_pos (by decide)]
    obtain ⟨y, hy⟩ : ∃ y, y = x % 2048 := ⟨_, rfl⟩
    have e2 : Int.tmod x 2048 = y := by rw [Int.tmod_eq_emod_of_nonneg (by omega), hy]
    have hy' : 0 ≤ y ∧ y < 2048 := by omega
    rw [e2]
    clear e2 hy hx'
    simp (disch := omega) only [Int.tdiv_eq_ediv_of_nonneg, Int.tmod_eq_emod_of_nonneg, w64_in]
    rw [Int.emod_eq_of_lt (a := 192 + y / 64) (by omega) (by omega), Int.emod_eq_of_lt (a := 128 + y % 64) (by omega) (by omega)]
    apply least_end _ (by omega) y _ _ (by intro z hz; simp only [List.mem_cons, List.not_mem_nil, or_false] at hz; omega) (by simp) (by omega)
    have hcn : cont (128 + y % 64) := by unfold cont; omega
    have lc := len_cases y
    by_cases g : 128 ≤ y
    · rw [if_pos ⟨by unfold scal; omega, (enc_2 ⟨g, hy'.2⟩).1⟩]
      apply decL_one _ _ _ 2 (by simp) _ rfl
      rw [dec1_cons, if_neg (by omega), if_pos (by omega)]
      simp only [if_pos hcn, Prod.mk.injEq, and_true]
      omega
    · rw [if_neg (by omega)]
      apply decL_none _ _ (by simp)
      rw [dec1_cons, if_neg (by omega), if_neg (by omega), if_neg (by omega), if_neg (by omega)]
  rw [if_neg (by omega)]
  by_cases m1 : m = 1
  · subst m1
    rw [if_pos (by decide)]
    obtain ⟨y, hy⟩ : ∃ y, y = x % 65536 := ⟨_, rfl⟩
    have e2 : Int.tmod x 65536 = y := by rw [Int.tmod_eq_emod_of_nonneg (by omega), hy]
    have hy' : 0 ≤ y ∧ y < 65536 := by omega
    rw [e2]
    clear e2 hy hx'
    simp (disch := omega) only [Int.tdiv_eq_ediv_of_nonneg, Int.tmod_eq_emod_of_nonneg, w64_in]
    rw [Int.emod_eq_of_lt (a := 224 + y / 4096) (by omega) (by omega), Int.emod_eq_of_lt (a := 128 + y / 64 % 64) (by omega) (by omega), Int.emod_eq_of_lt (a := 128 + y % 64) (by omega) (by omega)]
    apply least_end _ (by omega) y _ _ (by intro z hz; simp only [List.mem_cons, List.not_mem_nil, or_false] at hz; omega) (by simp) (by omega)
    have hcn : cont (128 + y % 64) := by unfold cont; omega
    have hcn2 : cont (128 + y / 64 % 64) := by unfold cont; omega
    have e : (224 + y / 4096 - 224) * 4096 + (128 + y / 64 % 64 - 128) * 64 + (128 + y % 64 - 128) = y := by omega
    by_cases g : len y = 3
    · have hs : scal y := by
        by_cases hs : scal y
        · exact hs
        · rw [(enc_0 hs).1] at g; omega
      rw [if_pos ⟨hs, g⟩]
      apply decL_one _ _ _ 3 (by simp) _ rfl
      rw [dec1_cons, if_neg (by omega), if_neg (by omega), if_pos (by omega)]
      simp only [e, hcn, hcn2, g, and_self, if_true]
    · rw [if_neg (fun h => g h.2)]
      apply decL_none _ _ (by simp)
      rw [dec1_cons, if_neg (by omega), if_neg (by omega), if_pos (by omega)]
      simp only [e, hcn, hcn2, g, and_false, if_false]
  rw [if_neg (by omega)]
  have m2 : m = 2 := by omega
  subst m2
  simp (disch := omega) only [Int.tdiv_eq_ediv_of_nonneg, Int.tmod_eq_emod_of_nonneg, w64_in]
  rw [Int.emod_eq_of_lt (a := 240 + x / 262144) (by omega) (by omega), Int.emod_eq_of_lt (a := 128 + x / 4096 % 64) (by omega) (by omega), Int.emod_eq_of_lt (a := 128 + x / 64 % 64) (by omega) (by omega), Int.emod_eq_of_lt (a := 128 + x % 64) (by omega) (by omega)]
  apply least_end _ (by omega) x _ _ (by intro z hz; simp only [List.mem_cons, List.not_mem_nil, or_false] at hz; omega) (by simp) (by omega)
  have hcn : cont (128 + x % 64) := by unfold cont; omega
  have hcn2 : cont (128 + x / 64 % 64) := by unfold cont; omega
  have hcn3 : cont (128 + x / 4096 % 64) := by unfold cont; omega
  have e : (240 + x / 262144 - 240) * 262144 + (128 + x / 4096 % 64 - 128) * 4096 + (128 + x / 64 % 64 - 128) * 64 + (128 + x % 64 - 128) = x := by omega
  by_cases g : len x = 4
  · have hs : scal x ∧ x ≤ 1114111 := by have := len_cases x; refine ⟨?_, by omega⟩; rcases this with h | h | h | h | h <;> first | exact h.1 | omega
    rw [if_pos ⟨hs.1, g⟩]
    apply decL_one _ _ _ 4 (by simp) _ rfl
    rw [dec1_cons, if_neg (by omega), if_neg (by omega), if_neg (by omega), if_pos (by omega)]
    simp only [e, hcn, hcn2, hcn3, g, and_self, if_true]
  · rw [if_neg (fun h => g h.2)]
    apply decL_none _ _ (by simp)
    rw [dec1_cons, if_neg (by omega), if_neg (by omega), if_neg (by omega)]
    by_cases q : x / 262144 < 5
    · rw [if_pos (by omega)]
      simp only [e, hcn, hcn2, hcn3, g, and_false, if_false]
    · rw [if_neg (by omega)]

end Go.Proofs.Ytmebmigolckeiaa.Pure
