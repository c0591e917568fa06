/- The statement UtfOrder of layer 1, over numbers and lists alone: of two characters the lesser one's bytes are less, and no character's bytes begin another one's.
   Conditions: none; for every two numbers of the kind int32. -/
import Derived.Test.YtmebmigolckeiaaPUtfOrderx3
namespace Go.Proofs.Ytmebmigolckeiaa.Pure
open Go.RowKit Go.Proofs.Ytmebmigolckeiaa.PUtfOrder Go.Proofs.YtmebmigolckeiaaW.PrintWords Go.Proofs.YtmebmigolckeiaaW.PrintLast Go.Proofs.YtmebmigolckeiaaW.PrintMore

theorem w32_in {n : Int} (h1 : -2147483648 ≤ n) (h2 : n ≤ 2147483647) : wrap32 n = n := by unfold wrap32; omega
theorem w64_in {n : Int} (h1 : -9223372036854775 ≤ n) (h2 : n ≤ 9223372036854775) : wrap64 n = n := by unfold wrap64; omega
theorem i32_wf {a : Int} (h : (Lit.int .i32 a).wf = true) : -2147483648 ≤ a ∧ a ≤ 2147483647 := by
  have h' : IntKind.i32.min ≤ a ∧ a ≤ IntKind.i32.max := by simpa [Lit.wf] using h
  have e1 : IntKind.i32.min = -2147483648 := by decide
  have e2 : IntKind.i32.max = 2147483647 := by decide
  omega
theorem u8_wf {a : Int} (h : (Lit.int .u8 a).wf = true) : 0 ≤ a ∧ a ≤ 255 := by
  have h' : IntKind.u8.min ≤ a ∧ a ≤ IntKind.u8.max := by simpa [Lit.wf] using h
  have e1 : IntKind.u8.min = 0 := by decide
  have e2 : IntKind.u8.max = 255 := by decide
  omega
theorem u32_wf {a : Int} (h : (Lit.int .u32 a).wf = true) : 0 ≤ a ∧ a ≤ 4294967295 := by
  have h' : IntKind.u32.min ≤ a ∧ a ≤ IntKind.u32.max := by simpa [Lit.wf] using h
  have e1 : IntKind.u32.min = 0 := by decide
  have e2 : IntKind.u32.max = 4294967295 := by decide
  omega

/-- A scalar. -/
def scal (r : Int) : Prop := 0 ≤ r ∧ r ≤ 1114111 ∧ (r < 55296 ∨ 57343 < r)
instance (r : Int) : Decidable (scal r) := by unfold scal; infer_instance
/-- How many bytes it has. -/
def len (r : Int) : Int := if scal r then (if r < 128 then 1 else if r < 2048 then 2 else if r < 65536 then 3 else 4) else 0
/-- Its bytes. -/
def enc (r : Int) : List Int :=
  if scal r then (if r < 128 then [r] else if r < 2048 then [192 + r / 64, 128 + r % 64] else if r < 65536 then [224 + r / 4096, 128 + r / 64 % 64, 128 + r % 64]
    else [240 + r / 262144, 128 + r / 4096 % 64, 128 + r / 64 % 64, 128 + r % 64]) else []

theorem enc_1 {r : Int} (h : 0 ≤ r ∧ r < 128) : len r = 1 ∧ enc r = [r] := by
  have hs : scal r := by unfold scal; omega
  unfold len enc
  rw [if_pos hs, if_pos hs, if_pos h.2, if_pos h.2]
  exact ⟨rfl, rfl⟩
theorem enc_2 {r : Int} (h : 128 ≤ r ∧ r < 2048) : len r = 2 ∧ enc r = [192 + r / 64, 128 + r % 64] := by
  have hs : scal r := by unfold scal; omega
  unfold len enc
  rw [if_pos hs, if_pos hs, if_neg (by omega), if_pos h.2, if_neg (by omega), if_pos h.2]
  exact ⟨rfl, rfl⟩
theorem enc_3 {r : Int} (h : 2048 ≤ r ∧ r < 65536) (hs : scal r) : len r = 3 ∧ enc r = [224 + r / 4096, 128 + r / 64 % 64, 128 + r % 64] := by
  unfold len enc
  rw [if_pos hs, if_pos hs, if_neg (by omega), if_neg (by omega), if_pos h.2, if_neg (by omega), if_neg (by omega), if_pos h.2]
  exact ⟨rfl, rfl⟩
theorem enc_4 {r : Int} (h : 65536 ≤ r ∧ r ≤ 1114111) : len r = 4 ∧ enc r = [240 + r / 262144, 128 + r / 4096 % 64, 128 + r / 64 % 64, 128 + r % 64] := by
  have hs : scal r := by unfold scal; omega
  unfold len enc
  rw [if_pos hs, if_pos hs, if_neg (by omega), if_neg (by omega), if_neg (by omega), if_neg (by omega), if_neg (by omega), if_neg (by omega)]
  exact ⟨rfl, rfl⟩
theorem enc_0 {r : Int} (h : ¬ scal r) : len r = 0 ∧ enc r = [] := by
  unfold len enc
  rw [if_neg h, if_neg h]
  exact ⟨rfl, rfl⟩
theorem scal_range {r : Int} (h : scal r) : 0 ≤ r ∧ r ≤ 1114111 := by unfold scal at h; omega
/-- By how many bytes it is. -/
theorem len_cases (r : Int) : (¬ scal r ∧ len r = 0) ∨ (scal r ∧ 0 ≤ r ∧ r < 128 ∧ len r = 1) ∨ (scal r ∧ 128 ≤ r ∧ r < 2048 ∧ len r = 2) ∨ (scal r ∧ 2048 ≤ r ∧ r < 65536 ∧ len r = 3) ∨ (scal r ∧ 65536 ≤ r ∧ r ≤ 1114111 ∧ len r = 4) := by
  by_cases hs : scal r
  · have hr := scal_range hs
    by_cases h1 : r < 128
    · exact Or.inr (Or.inl ⟨hs, hr.1, h1, (enc_1 ⟨hr.1, h1⟩).1⟩)
    by_cases h2 : r < 2048
    · exact Or.inr (Or.inr (Or.inl ⟨hs, by omega, h2, (enc_2 ⟨by omega, h2⟩).1⟩))
    by_cases h3 : r < 65536
    · exact Or.inr (Or.inr (Or.inr (Or.inl ⟨hs, by omega, h3, (enc_3 ⟨by omega, h3⟩ hs).1⟩)))
    · exact Or.inr (Or.inr (Or.inr (Or.inr ⟨hs, by omega, hr.2, (enc_4 ⟨by omega, hr.2⟩).1⟩)))
  · exact Or.inl ⟨hs, (enc_0 hs).1⟩
theorem len_range (r : Int) : 0 ≤ len r ∧ len r ≤ 4 := by
  unfold len
  repeat' split
  all_goals omega
theorem enc_len (r : Int) : ((enc r).length : Int) = len r := by
  unfold enc len
  repeat' split
  all_goals rfl

/-- A byte that follows. -/
def cont (b : Int) : Prop := 128 ≤ b ∧ b ≤ 191
instance (b : Int) : Decidable (cont b) := by unfold cont; infer_instance

/-- The scalar that bytes begin with, and how many they are. -/
def dec1 (l : List Int) : Int × Int :=
  match l with
  | [] => (0, 0)
  | a :: t =>
    if a < 128 then (a, 1)
    else if 194 ≤ a ∧ a < 224 then
      (match t with
      | b :: _ => if cont b then ((a - 192) * 64 + (b - 128), 2) else (0, 0)
      | _ => (0, 0))
    else if 224 ≤ a ∧ a < 240 then
      (match t with
      | b :: c :: _ => if cont b ∧ cont c ∧ len ((a - 224) * 4096 + (b - 128) * 64 + (c - 128)) = 3 then ((a - 224) * 4096 + (b - 128) * 64 + (c - 128), 3) else (0, 0)
      | _ => (0, 0))
    else if 240 ≤ a ∧ a < 245 then
      (match t with
      | b :: c :: d :: _ => if cont b ∧ cont c ∧ cont d ∧ len ((a - 240) * 262144 + (b - 128) * 4096 + (c - 128) * 64 + (d - 128)) = 4 then ((a - 240) * 262144 + (b - 128) * 4096 + (c - 128) * 64 + (d - 128), 4) else (0, 0)
      | _ => (0, 0))
    else (0, 0)

theorem dec1_cons (a : Int) (t : List Int) : dec1 (a :: t) =
    ((if a < 128 then (a, 1)
    else if 194 ≤ a ∧ a < 224 then
      (match t with
      | b :: _ => if cont b then ((a - 192) * 64 + (b - 128), 2) else (0, 0)
      | _ => (0, 0))
    else if 224 ≤ a ∧ a < 240 then
      (match t with
      | b :: c :: _ => if cont b ∧ cont c ∧ len ((a - 224) * 4096 + (b - 128) * 64 + (c - 128)) = 3 then ((a - 224) * 4096 + (b - 128) * 64 + (c - 128), 3) else (0, 0)
      | _ => (0, 0))
    else if 240 ≤ a ∧ a < 245 then
      (match t with
      | b :: c :: d :: _ => if cont b ∧ cont c ∧ cont d ∧ len ((a - 240) * 262144 + (b - 128) * 4096 + (c - 128) * 64 + (d - 128)) = 4 then ((a - 240) * 262144 + (b - 128) * 4096 + (c - 128) * 64 + (d - 128), 4) else (0, 0)
      | _ => (0, 0))
    else (0, 0)) : Int × Int) := rfl
theorem dec1_range (l : List Int) : 0 ≤ (dec1 l).2 ∧ (dec1 l).2 ≤ l.length := by
  unfold dec1
  repeat' split
  all_goals first | (simp; done) | (simp only [List.length_cons, List.length_nil, Nat.cast_add, Nat.cast_one]; omega) | (simp only [List.length_cons]; omega)

/-- All bytes. -/
def bytes (l : List Int) : Prop := ∀ x ∈ l, 0 ≤ x ∧ x ≤ 255
theorem bytes_drop {l : List Int} (h : bytes l) (n : Nat) : bytes (l.drop n) := fun x hx => h x (List.mem_of_mem_drop hx)

theorem scalar_is (r : Int) : utf_Scalar.f r = some (decide (scal r)) := by
  unfold utf_Scalar.f
  by_cases h : scal r
  · rw [decide_eq_true h]
    unfold scal at h
    rw [if_pos (by omega), if_pos (by omega)]
    split
    · rfl
    · rw [decide_eq_true (by omega)]
  · rw [decide_eq_false h]
    unfold scal at h
    split
    · split
      · rw [if_neg (by omega), decide_eq_false (by omega)]
      · rfl
    · rfl

theorem len_is (r : Int) : utf_Len.f r = some (len r) := by
  unfold utf_Len.f len
  rw [scalar_is]
  by_cases h : scal r
  · simp only [h, decide_true, Option.bind_some, if_true]
    repeat' split
    all_goals rfl
  · simp only [h, decide_false, Option.bind_some, Bool.false_eq_true, if_false]

/-- What a first byte begins. -/
def size1 (a : Int) : Int := if a < 128 then 1 else if 194 ≤ a ∧ a < 224 then 2 else if 224 ≤ a ∧ a < 240 then 3 else if 240 ≤ a ∧ a < 245 then 4 else 0
theorem size_is (k : Nat) (hk : 3 ≤ k) (a : Int) : utf_size.f k a = some (size1 a) := by
  obtain ⟨k, rfl⟩ : ∃ m, k = m + 3 := ⟨k - 3, by omega⟩
  unfold utf_size.f size1
  by_cases h1 : a < 128
  · rw [if_pos h1, if_pos h1]
  rw [if_neg h1, if_neg h1]
  by_cases h2 : 194 ≤ a ∧ a < 224
  · rw [if_pos h2.1, if_pos h2, decide_eq_true h2.2]; simp only [utf_size.j0, if_true]
  have e : (if a ≥ 194 then (utf_size.j0 (k + 3) a (decide (a < 224))) else (utf_size.j0 (k + 3) a false)) = utf_size.j0 (k + 3) a false := by
    split
    · rw [decide_eq_false (by omega)]
    · rfl
  rw [e, if_neg h2]
  simp only [utf_size.j0, Bool.false_eq_true, if_false]
  by_cases h3 : 224 ≤ a ∧ a < 240
  · rw [if_pos h3.1, if_pos h3, decide_eq_true h3.2]; simp only [utf_size.j1, if_true]
  have e : (if a ≥ 224 then (utf_size.j1 (k + 2) a (decide (a < 240))) else (utf_size.j1 (k + 2) a false)) = utf_size.j1 (k + 2) a false := by
    split
    · rw [decide_eq_false (by omega)]
    · rfl
  rw [e, if_neg h3]
  simp only [utf_size.j1, Bool.false_eq_true, if_false]
  by_cases h4 : 240 ≤ a
  · rw [if_pos h4]
    by_cases h5 : a < 245
    · rw [if_pos h5, if_pos ⟨h4, h5⟩]
    · rw [if_neg h5, if_neg (by omega)]
  · rw [if_neg h4, if_neg (by omega)]

/-- What a first byte's upper bits leave. -/
def body1 (a : Int) : Int := if a < 128 then a else if a < 224 then a - 192 else if a < 240 then a - 224 else a - 240
theorem mask_head : ∀ a : Fin 256, size1 (a.val : Int) ≠ 0 → wrap32 (Go.bits .andNot .u8 (a.val : Int) (if size1 (a.val : Int) = 2 then 192 else if size1 (a.val : Int) = 3 then 224 else if size1 (a.val : Int) = 4 then 240 else 0)) = body1 (a.val : Int) := by decide +kernel
theorem mask_cont : ∀ a : Fin 256, Go.bits .andNot .u8 (a.val : Int) 63 = 128 ↔ cont (a.val : Int) := by decide +kernel
theorem mask_cont' (a : Int) (h0 : 0 ≤ a) (h1 : a ≤ 255) : Go.bits .andNot .u8 a 63 = 128 ↔ cont a := by
  have := mask_cont ⟨a.toNat, by omega⟩
  have e : ((a.toNat : Nat) : Int) = a := by omega
  simpa [e] using this
theorem mask_head' (a : Int) (h0 : 0 ≤ a) (h1 : a ≤ 255) (hs : size1 a ≠ 0) : wrap32 (Go.bits .andNot .u8 a (if size1 a = 2 then 192 else if size1 a = 3 then 224 else if size1 a = 4 then 240 else 0)) = body1 a := by
  have := mask_head ⟨a.toNat, by omega⟩
  have e : ((a.toNat : Nat) : Int) = a := by omega
  simp only [e] at this
  exact this hs
theorem head_is (n : Int) : utf_head.f n = some (if n = 2 then 192 else if n = 3 then 224 else if n = 4 then 240 else 0) := by
  unfold utf_head.f
  repeat' split
  all_goals rfl

/-- The bytes that follow, taken into the number. -/
def eat (r : Int) : List Int → Option Int
  | [] => some r
  | b :: t => if cont b then eat (r * 64 + (b - 128)) t else none

theorem next_loop (n : Int) : ∀ (m : Nat) (k : Nat) (l : List Int) (i : Nat) (r : Int), l.length - i = m → m + 1 ≤ k → l.length ≤ 3 → i ≤ l.length → bytes l → 0 ≤ r → r < 64 * 64 ^ i →
    utf_next.l0 k n r l (l.length : Int) (i : Int) = some (match eat r (l.drop i) with | some x => if len x = n then (x, n) else (0, 0) | none => (0, 0)) := by
  intro m
  induction m with
  | zero =>
    intro k l i r hm hk hl hi hb h0 h1
    obtain ⟨k, rfl⟩ : ∃ m, k = m + 1 := ⟨k - 1, by omega⟩
    rw [utf_next.l0, if_neg (by omega), List.drop_eq_nil_of_le (by omega)]
    simp only [eat, len_is, Option.bind_some]
    split <;> rfl
  | succ m ih =>
    intro k l i r hm hk hl hi hb h0 h1
    obtain ⟨k, rfl⟩ : ∃ m, k = m + 1 := ⟨k - 1, by omega⟩
    have hi' : i < l.length := by omega
    have hr : rd l (i : Int) = l[i] := by unfold rd; simp [hi']
    have hbi := hb l[i] (List.getElem_mem hi')
    rw [utf_next.l0, if_pos (by omega), if_pos (by omega), if_pos (by omega), hr, List.drop_eq_getElem_cons hi', eat]
    by_cases hc : cont l[i]
    · rw [if_pos ((mask_cont' _ hbi.1 hbi.2).2 hc), if_pos hc]
      have hc' : 128 ≤ l[i] ∧ l[i] ≤ 191 := hc
      have hsm : r < 64 * 64 ^ 2 := by
        have : (64 : Int) ^ i ≤ 64 ^ 2 := by
          have h2 : i ≤ 2 := by omega
          rcases i with _ | _ | _ | _
          · decide
          · decide
          · decide
          · omega
        omega
      rw [u8_and63 _ hbi.1 (by omega), w32_in (n := l[i] % 64) (by omega) (by omega), w32_in (n := r * 64) (by omega) (by omega), i32_or6 _ _ (by omega) (by omega) (by omega) (by omega) (by omega), w64_in (by omega) (by omega)]
      have e : r * 64 + l[i] % 64 = r * 64 + (l[i] - 128) := by omega
      rw [e]
      have hp : (64 : Int) ^ (i + 1) = 64 ^ i * 64 := Int.pow_succ _ _
      have := ih k l (i + 1) (r * 64 + (l[i] - 128)) (by omega) (by omega) hl (by omega) hb (by omega) (by omega)
      rw [Int.natCast_add] at this
      exact this
    · rw [if_neg (fun h => hc ((mask_cont' _ hbi.1 hbi.2).1 h)), if_neg hc]

theorem next_is (k : Nat) (hk : 10 ≤ k) (l : List Int) (hb : bytes l) (hl : l ≠ []) : utf_next.f k l = some (dec1 l) := by
  obtain ⟨k, rfl⟩ : ∃ m, k = m + 10 := ⟨k - 10, by omega⟩
  obtain ⟨a, t, rfl⟩ : ∃ a t, l = a :: t := by cases l with | nil => exact absurd rfl hl | cons a t => exact ⟨a, t, rfl⟩
  have ha := hb a (by simp)
  have hlen : (((a :: t).length : Nat) : Int) = (t.length : Int) + 1 := by simp
  have hr : rd (a :: t) 0 = a := rfl
  unfold utf_next.f
  rw [if_pos (by omega), hr, size_is _ (by omega)]
  simp only [Option.bind_some]
  by_cases hz : size1 a = 0 ∨ size1 a > ((a :: t).length : Int)
  · have e : (if size1 a = 0 then utf_next.j0 (k + 10) (a :: t) (size1 a) true else utf_next.j0 (k + 10) (a :: t) (size1 a) (decide (size1 a > ((a :: t).length : Int)))) = utf_next.j0 (k + 10) (a :: t) (size1 a) true := by
      split
      · rfl
      · rw [decide_eq_true (by omega)]
    rw [e, utf_next.j0]
    simp only [if_true]
    unfold size1 at hz
    rw [dec1_cons]
    rw [hlen] at hz
    by_cases g1 : a < 128
    · rw [if_pos g1] at hz; omega
    rw [if_neg g1] at hz ⊢
    by_cases g2 : 194 ≤ a ∧ a < 224
    · rw [if_pos g2] at hz ⊢
      have : t = [] := by cases t with | nil => rfl | cons b t => simp at hz; omega
      subst this; rfl
    rw [if_neg g2] at hz ⊢
    by_cases g3 : 224 ≤ a ∧ a < 240
    · rw [if_pos g3] at hz ⊢
      match t, hz with
      | [], _ => rfl
      | [_], _ => rfl
      | b :: c :: t, hz => simp at hz; omega
    rw [if_neg g3] at hz ⊢
    by_cases g4 : 240 ≤ a ∧ a < 245
    · rw [if_pos g4] at hz ⊢
      match t, hz with
      | [], _ => rfl
      | [_], _ => rfl
      | [_, _], _ => rfl
      | b :: c :: d :: t, hz => simp at hz; omega
    rw [if_neg g4]
  · have hz1 : size1 a ≠ 0 := fun h => hz (Or.inl h)
    have hz2 : ¬ size1 a > ((a :: t).length : Int) := fun h => hz (Or.inr h)
    rw [if_neg hz1, decide_eq_false hz2, utf_next.j0]
    simp only [Bool.false_eq_true, if_false, head_is, Option.bind_some]
    have hs : 1 ≤ size1 a ∧ size1 a ≤ 4 := by unfold size1 at *; repeat' split at *; all_goals omega
    rw [if_pos (by omega), if_pos hs.1, if_pos (by omega), hr, mask_head' a ha.1 ha.2 hz1]
    have hdl : (((a :: t).take (size1 a).toNat).drop 1) = t.take ((size1 a).toNat - 1) := by
      obtain ⟨m, hm⟩ : ∃ m, (size1 a).toNat = m + 1 := ⟨(size1 a).toNat - 1, by omega⟩
      rw [hm]; simp
    rw [hdl]
    have hbt : bytes (t.take ((size1 a).toNat - 1)) := fun x hx => hb x (List.mem_cons_of_mem _ (List.mem_of_mem_take hx))
    have hbl : 0 ≤ body1 a ∧ body1 a < 64 ∨ a < 128 := by
      unfold body1
      unfold size1 at hz1
      repeat' split
      all_goals (repeat' split at hz1)
      all_goals omega
    by_cases g1 : a < 128
    · have e1 : size1 a = 1 := by unfold size1; rw [if_pos g1]
      have e2 : body1 a = a := by unfold body1; rw [if_pos g1]
      have e3 : scal a := by unfold scal; omega
      have e4 : len a = 1 := by unfold len; rw [if_pos e3, if_pos g1]
      rw [e1, e2]
      simp only [Int.toNat_one, Nat.sub_self, List.take_zero, List.length_nil]
      rw [utf_next.l0, if_neg (by decide), len_is, e4]
      rw [dec1_cons]
      simp [g1]
    have hb2 : 0 ≤ body1 a ∧ body1 a < 64 := by omega
    have key := next_loop (size1 a) _ (k + 9) (t.take ((size1 a).toNat - 1)) 0 (body1 a) rfl (by rw [List.length_take]; omega) (by rw [List.length_take]; omega) (by omega) hbt hb2.1 (by simpa using hb2.2)
    rw [List.drop_zero] at key
    rw [show ((0 : Nat) : Int) = 0 from rfl] at key
    rw [key]
    unfold size1 at hz2 hs ⊢
    rw [dec1_cons]
    unfold body1
    rw [hlen] at hz2
    rw [if_neg g1] at hz2 hs ⊢
    simp only [if_neg g1]
    by_cases g2 : 194 ≤ a ∧ a < 224
    · simp only [if_pos g2, if_pos g2.2] at hz2 hs ⊢
      match t, hz2 with
      | [], hz2 => simp at hz2
      | b :: t, _ =>
        simp only [show (2 : Int).toNat - 1 = 1 from rfl, List.take_succ_cons, List.take_zero, eat]
        by_cases hc : cont b
        · rw [if_pos hc, if_pos hc]
          have hc' : 128 ≤ b ∧ b ≤ 191 := hc
          have e3 : scal ((a - 192) * 64 + (b - 128)) := by unfold scal; omega
          have e4 : len ((a - 192) * 64 + (b - 128)) = 2 := by unfold len; rw [if_pos e3, if_neg (by omega), if_pos (by omega)]
          simp only [e4, if_true]
        · rw [if_neg hc, if_neg hc]
    simp only [if_neg g2] at hz2 hs ⊢
    have g2' : ¬ a < 224 := by
      intro h
      rw [if_neg (by omega), if_neg (by omega)] at hs
      omega
    by_cases g3 : 224 ≤ a ∧ a < 240
    · simp only [if_pos g3, if_neg g2', if_pos g3.2] at hz2 hs ⊢
      match t, hz2 with
      | [], hz2 => simp at hz2
      | [_], hz2 => simp at hz2
      | b :: c :: t, _ =>
        simp only [show (3 : Int).toNat - 1 = 2 from rfl, List.take_succ_cons, List.take_zero, eat]
        by_cases hc : cont b
        · by_cases hd : cont c
          · rw [if_pos hc, if_pos hd]
            have e : ((a - 224) * 64 + (b - 128)) * 64 + (c - 128) = (a - 224) * 4096 + (b - 128) * 64 + (c - 128) := by omega
            simp only [e, hc, hd, true_and]
          · rw [if_pos hc, if_neg hd, if_neg (by simp [hd])]
        · rw [if_neg hc, if_neg (by simp [hc])]
    simp only [if_neg g3] at hz2 hs ⊢
    have g3' : ¬ a < 240 := by omega
    by_cases g4 : 240 ≤ a ∧ a < 245
    · simp only [if_pos g4, if_neg g2', if_neg g3'] at hz2 hs ⊢
      match t, hz2 with
      | [], hz2 => simp at hz2
      | [_], hz2 => simp at hz2
      | [_, _], hz2 => simp at hz2
      | b :: c :: d :: t, _ =>
        simp only [show (4 : Int).toNat - 1 = 3 from rfl, List.take_succ_cons, List.take_zero, eat]
        by_cases hc : cont b
        · by_cases hd : cont c
          · by_cases he : cont d
            · rw [if_pos hc, if_pos hd, if_pos he]
              have e : (((a - 240) * 64 + (b - 128)) * 64 + (c - 128)) * 64 + (d - 128) = (a - 240) * 262144 + (b - 128) * 4096 + (c - 128) * 64 + (d - 128) := by omega
              simp only [e, hc, hd, he, true_and]
            · rw [if_pos hc, if_pos hd, if_neg he, if_neg (by simp [he])]
          · rw [if_pos hc, if_neg hd, if_neg (by simp [hd])]
        · rw [if_neg hc, if_neg (by simp [hc])]
    simp only [if_neg g4] at hs
    omega

/-- The scalars of bytes, or the place where none begins: with fuel, from a place on. -/
def decL : Nat → List Int → Int → List Int → List Int × Int × Int
  | 0, _, _, _ => ([], 0, 0)
  | n + 1, l, p, acc => if l = [] then (acc, 0, 0) else if (dec1 l).2 = 0 then ([], 2, p) else decL n (l.drop (dec1 l).2.toNat) (p + (dec1 l).2) (acc ++ [(dec1 l).1])

theorem decL_nil (n : Nat) (p : Int) (acc : List Int) : decL (n + 1) [] p acc = (acc, 0, 0) := by rw [decL, if_pos rfl]

theorem decode_loop : ∀ (n k : Nat) (x acc : List Int) (i : Nat), i ≤ x.length → x.length - i < n → n + 12 ≤ k → acc.length ≤ i → bytes x → x.length ≤ 100000000 →
    utf_Decode.l0 k x acc (i : Int) = some (decL n (x.drop i) (i : Int) acc) := by
  intro n
  induction n with
  | zero => intro k x acc i h1 h2; omega
  | succ n ih =>
    intro k x acc i h1 h2 h3 h4 hb hl
    obtain ⟨k, rfl⟩ : ∃ m, k = m + 1 := ⟨k - 1, by omega⟩
    rw [utf_Decode.l0, decL]
    by_cases hi : i < x.length
    · have hne : x.drop i ≠ [] := by
        intro h
        have := congrArg List.length h
        rw [List.length_drop, List.length_nil] at this
        omega
      rw [if_pos (by omega), if_pos (by omega), if_pos (by omega), Int.toNat_natCast, next_is k (by omega) _ (bytes_drop hb i) hne, if_neg hne]
      simp only [Option.bind_some]
      by_cases hz : (dec1 (x.drop i)).2 = 0
      · rw [if_pos hz, if_pos hz]
      · rw [if_neg hz, if_neg hz, if_pos (by omega)]
        have hr := dec1_range (x.drop i)
        rw [List.length_drop] at hr
        rw [w64_in (by omega) (by omega)]
        have e : (i : Int) + (dec1 (x.drop i)).2 = ((i + (dec1 (x.drop i)).2.toNat : Nat) : Int) := by omega
        rw [List.drop_drop, e]
        exact ih k x _ _ (by omega) (by omega) (by omega) (by simp only [List.length_append, List.length_cons, List.length_nil]; omega) hb hl
    · rw [if_neg (by omega), if_pos (List.drop_eq_nil_of_le (by omega))]

theorem decode_is (k : Nat) (x : List Int) (hk : x.length + 14 ≤ k) (hb : bytes x) (hl : x.length ≤ 100000000) : utf_Decode.f k x = some (decL (x.length + 1) x 0 []) := by
  unfold utf_Decode.f
  exact decode_loop (x.length + 1) k x [] 0 (by omega) (by omega) (by omega) (by simp) hb hl

theorem answers_is (k : Nat) (hk : 20 ≤ k) : amanuensislaw01_answers.f k = some true := by
  unfold amanuensislaw01_answers.f
  rw [decode_is k [195, 169] (by simp; omega) (by intro x hx; simp at hx; omega) (by simp), len_is]
  have e : decL 3 [195, 169] 0 [] = ([233], 0, 0) := by decide +kernel
  have e2 : len 19968 = 3 := by decide
  simp only [List.length_cons, List.length_nil, Nat.zero_add, e, e2, Option.bind_some]
  decide

theorem shr_is (x : Int) (n : Nat) (hn : n ≤ 31) : shr .i32 x (n : Int) = x / 2 ^ n := by
  unfold shr
  rw [Int.toNat_natCast, Nat.min_eq_left (by simp [IntKind.bits]; omega)]
theorem i32_and63 (x : Int) (h0 : 0 ≤ x) (h1 : x < 2147483648) : Go.bits .and .i32 x 63 = x % 64 := bits_mask .i32 31 (by decide) wraps_i32 6 (by decide) x h0 h1

theorem put_end (k : Nat) (l : List Int) (r : Int) : utf_put.l0 (k + 1) l r (-1) = some l := by
  rw [utf_put.l0, if_neg (by decide)]
theorem put_step (k : Nat) (l : List Int) (r : Int) (n : Nat) (hn : n ≤ 3) (hr : 0 ≤ r ∧ r ≤ 1114111) (hl : l.length < 140737488355328) :
    utf_put.l0 (k + 1) l r (n : Int) = utf_put.l0 k (l ++ [128 + r / 64 ^ n % 64]) r ((n : Int) - 1) := by
  rw [utf_put.l0, w64_in (n := 6 * (n : Int)) (by omega) (by omega), if_pos (by omega), if_pos (by omega), if_pos hl, w64_in (n := (n : Int) - 1) (by omega) (by omega)]
  have e : (6 * (n : Int)) = ((6 * n : Nat) : Int) := by omega
  have hp : (2 : Int) ^ (6 * n) = 64 ^ n := by
    rw [Int.pow_mul]; rfl
  have hpos : (0 : Int) < 64 ^ n := Int.pow_pos (by decide)
  have h0 : 0 ≤ r / 64 ^ n := Int.ediv_nonneg hr.1 (by omega)
  have h1 : r / 64 ^ n ≤ r := Int.ediv_le_self _ hr.1
  rw [e, shr_is r _ (by omega), hp, i32_and63 _ h0 (by omega), Int.emod_eq_of_lt (a := r / 64 ^ n % 64) (by omega) (by omega), u8_or128 _ (by omega) (by omega)]

theorem put_is (k : Nat) (hk : 10 ≤ k) (l : List Int) (r : Int) (hs : scal r) (hl : l.length ≤ 100000000000) : utf_put.f k l r = some (l ++ enc r) := by
  obtain ⟨k, rfl⟩ : ∃ m, k = m + 10 := ⟨k - 10, by omega⟩
  have hr := scal_range hs
  unfold utf_put.f
  rw [len_is]
  simp only [Option.bind_some, head_is]
  rcases len_cases r with h | h | h | h | h
  · exact absurd hs h.1
  · rw [h.2.2.2, (enc_1 ⟨h.2.1, h.2.2.1⟩).2]
    simp only [show wrap64 (1 - 1) = 0 from by unfold wrap64; omega, show wrap64 (6 * 0) = 0 from by unfold wrap64; omega, show wrap64 (1 - 2) = -1 from by unfold wrap64; omega]
    rw [if_pos (by decide), if_pos (by omega), put_end]
    have e := shr_is r 0 (by omega)
    rw [show ((0 : Nat) : Int) = 0 from rfl] at e
    rw [if_neg (by decide), if_neg (by decide), if_neg (by decide), e]
    have e2 : r / 2 ^ 0 % 256 = r := by simp; omega
    rw [e2]
    have e3 : Go.bits .or .u8 0 r = r := by
      have := bits_join .u8 8 (by decide) wraps_u8 8 0 r (by decide) (by decide) (by decide) h.2.1 (by omega) (by omega)
      simpa using this
    rw [e3]
  · rw [h.2.2.2, (enc_2 ⟨h.2.1, h.2.2.1⟩).2]
    simp only [if_true, show wrap64 (2 - 1) = 1 from by unfold wrap64; omega, show wrap64 (6 * 1) = 6 from by unfold wrap64; omega, show wrap64 (2 - 2) = 0 from by unfold wrap64; omega]
    rw [if_pos (by decide), if_pos (by omega)]
    have e := shr_is r 6 (by omega)
    rw [show ((6 : Nat) : Int) = 6 from rfl] at e
    rw [e, show r / 2 ^ 6 % 256 = r / 64 from by omega, u8_or192 _ (by omega) (by omega)]
    have s0 := fun k l h => put_step k l r 0 (by omega) hr h
    simp only [Int.natCast_zero, show (0 : Int) - 1 = -1 from rfl, Int.pow_zero, Int.ediv_one] at s0
    rw [s0 _ _ (by simp; omega), put_end]
    simp
  · rw [h.2.2.2, (enc_3 ⟨h.2.1, h.2.2.1⟩ h.1).2]
    simp only [show wrap64 (3 - 1) = 2 from by unfold wrap64; omega, show wrap64 (6 * 2) = 12 from by unfold wrap64; omega, show wrap64 (3 - 2) = 1 from by unfold wrap64; omega]
    rw [if_pos (by decide), if_pos (by omega)]
    have e := shr_is r 12 (by omega)
    rw [show ((12 : Nat) : Int) = 12 from rfl] at e
    rw [if_neg (by decide)]
    simp only [if_true]
    rw [e, show r / 2 ^ 12 % 256 = r / 4096 from by omega, u8_or224 _ (by omega) (by omega)]
    have s0 := fun k l h => put_step k l r 0 (by omega) hr h
    simp only [Int.natCast_zero, show (0 : Int) - 1 = -1 from rfl, Int.pow_zero, Int.ediv_one] at s0
    have s1 := fun k l h => put_step k l r 1 (by omega) hr h
    simp only [show ((1 : Nat) : Int) = 1 from rfl, show (1 : Int) - 1 = 0 from rfl, show (64 : Int) ^ 1 = 64 from rfl] at s1
    rw [s1 _ _ (by simp; omega), s0 _ _ (by simp; omega), put_end]
    simp
  · rw [h.2.2.2, (enc_4 ⟨h.2.1, h.2.2.1⟩).2]
    simp only [show wrap64 (4 - 1) = 3 from by unfold wrap64; omega, show wrap64 (6 * 3) = 18 from by unfold wrap64; omega, show wrap64 (4 - 2) = 2 from by unfold wrap64; omega]
    rw [if_pos (by decide), if_pos (by omega)]
    have e := shr_is r 18 (by omega)
    rw [show ((18 : Nat) : Int) = 18 from rfl] at e
    rw [if_neg (by decide), if_neg (by decide)]
    simp only [if_true]
    rw [e, show r / 2 ^ 18 % 256 = r / 262144 from by omega, u8_or240 _ (by omega) (by omega)]
    have s0 := fun k l h => put_step k l r 0 (by omega) hr h
    simp only [Int.natCast_zero, show (0 : Int) - 1 = -1 from rfl, Int.pow_zero, Int.ediv_one] at s0
    have s1 := fun k l h => put_step k l r 1 (by omega) hr h
    simp only [show ((1 : Nat) : Int) = 1 from rfl, show (1 : Int) - 1 = 0 from rfl, show (64 : Int) ^ 1 = 64 from rfl] at s1
    have s2 := fun k l h => put_step k l r 2 (by omega) hr h
    simp only [show ((2 : Nat) : Int) = 2 from rfl, show (2 : Int) - 1 = 1 from rfl, show (64 : Int) ^ 2 = 4096 from rfl] at s2
    rw [s2 _ _ (by simp; omega), s1 _ _ (by simp; omega), s0 _ _ (by simp; omega), put_end]
    simp

/-- All bytes of characters. -/
def flat : List Int → List Int
  | [] => []
  | r :: t => enc r ++ flat t
theorem flat_append (a b : List Int) : flat (a ++ b) = flat a ++ flat b := by
  induction a with
  | nil => rfl
  | cons x a ih => simp [flat, ih]
theorem enc_length (r : Int) : (enc r).length ≤ 4 := by have := enc_len r; have := len_range r; omega
theorem flat_length (l : List Int) : (flat l).length ≤ 4 * l.length := by
  induction l with
  | nil => simp [flat]
  | cons x a ih => have := enc_length x; simp only [flat, List.length_append, List.length_cons]; omega

/-- The bytes of characters, or the first that is none. -/
def encL : List Int → Int → List Int → List Int × Int × Int
  | [], _, acc => (acc, 0, 0)
  | r :: t, p, acc => if scal r then encL t (p + 1) (acc ++ enc r) else ([], 2, p)

theorem encode_loop : ∀ (n k : Nat) (x acc : List Int) (i : Nat), i ≤ x.length → x.length - i = n → n + 12 ≤ k → acc.length ≤ 4 * i → x.length ≤ 100000000 →
    utf_Encode.l0 k acc x (x.length : Int) (i : Int) = some (encL (x.drop i) (i : Int) acc) := by
  intro n
  induction n with
  | zero =>
    intro k x acc i h1 h2 h3 h4 hl
    obtain ⟨k, rfl⟩ : ∃ m, k = m + 1 := ⟨k - 1, by omega⟩
    rw [utf_Encode.l0, if_neg (by omega), List.drop_eq_nil_of_le (by omega), encL]
  | succ n ih =>
    intro k x acc i h1 h2 h3 h4 hl
    obtain ⟨k, rfl⟩ : ∃ m, k = m + 1 := ⟨k - 1, by omega⟩
    have hi : i < x.length := by omega
    have hr : rd x (i : Int) = x[i] := by unfold rd; simp [hi]
    rw [utf_Encode.l0, if_pos (by omega), if_pos (by omega), if_pos (by omega), hr, scalar_is, List.drop_eq_getElem_cons hi, encL]
    simp only [Option.bind_some, decide_eq_true_eq]
    by_cases hs : scal x[i]
    · rw [if_pos hs, if_pos hs, put_is k (by omega) _ _ hs (by omega)]
      simp only [Option.bind_some]
      rw [w64_in (by omega) (by omega)]
      have el := enc_length x[i]
      have := ih k x (acc ++ enc x[i]) (i + 1) (by omega) (by omega) (by omega) (by simp only [List.length_append]; omega) hl
      rw [Int.natCast_add] at this
      exact this
    · rw [if_neg hs, if_neg hs]
theorem encode_is (k : Nat) (x : List Int) (hk : x.length + 12 ≤ k) (hl : x.length ≤ 100000000) : utf_Encode.f k x = some (encL x 0 []) := by
  unfold utf_Encode.f
  exact encode_loop x.length k x [] 0 (by omega) (by omega) hk (by simp) hl
theorem encL_all (l : List Int) : ∀ (p : Int) (acc : List Int), (∀ r ∈ l, scal r) → encL l p acc = (acc ++ flat l, 0, 0) := by
  induction l with
  | nil => intro p acc _; simp [encL, flat]
  | cons r t ih =>
    intro p acc h
    rw [encL, if_pos (h r (by simp)), ih _ _ (fun x hx => h x (List.mem_cons_of_mem _ hx))]
    simp [flat]
theorem encL_cases (l : List Int) : ∀ (p : Int) (acc : List Int), ((∀ r ∈ l, scal r) ∧ encL l p acc = (acc ++ flat l, 0, 0)) ∨ (¬ (∀ r ∈ l, scal r) ∧ ∃ q, encL l p acc = ([], 2, q)) := by
  induction l with
  | nil => intro p acc; exact Or.inl ⟨fun r hr => by simp at hr, by simp [encL, flat]⟩
  | cons r t ih =>
    intro p acc
    rw [encL]
    by_cases hs : scal r
    · rw [if_pos hs]
      rcases ih (p + 1) (acc ++ enc r) with ⟨h1, h2⟩ | ⟨h1, q, h2⟩
      · refine Or.inl ⟨fun x hx => ?_, by rw [h2]; simp [flat]⟩
        rcases List.mem_cons.1 hx with rfl | hx
        · exact hs
        · exact h1 x hx
      · exact Or.inr ⟨fun h => h1 (fun x hx => h x (List.mem_cons_of_mem _ hx)), q, h2⟩
    · rw [if_neg hs]
      exact Or.inr ⟨fun h => hs (h r (by simp)), p, rfl⟩

/-- The bytes of two characters, one by one: the first that are not the same tell which character is less; else both are one and the same. -/
def ordL (r s : Int) : List Int → List Int → Bool
  | x :: a, y :: b => if x = y then ordL r s a b else (decide (x < y) == decide (r < s))
  | [], b => decide (r = s) && b.length == 0
  | a, [] => decide (r = s) && a.length == 0

theorem order_loop (r s : Int) : ∀ (n k : Nat) (a b : List Int) (i : Nat), a.length ≤ 4 → b.length ≤ 4 → i ≤ a.length → i ≤ b.length → a.length - i ≤ n → 2 * n + 30 ≤ k →
    amanuensislaw01_UtfOrder.l0 k r s a b (i : Int) = some (ordL r s (a.drop i) (b.drop i)) := by
  intro n
  induction n with
  | zero =>
    intro k a b i h1 h2 h3 h4 h5 h6
    obtain ⟨k, rfl⟩ : ∃ m, k = m + 2 := ⟨k - 2, by omega⟩
    rw [amanuensislaw01_UtfOrder.l0, if_neg (by omega), amanuensislaw01_UtfOrder.j2, answers_is k (by omega), List.drop_eq_nil_of_le (by omega)]
    simp only [Bool.false_eq_true, if_false, Option.bind_some, if_true, ordL, List.length_drop]
    by_cases e : r = s
    · rw [if_pos e]
      simp only [e, decide_true, Bool.true_and, Option.some.injEq]
      rw [Bool.eq_iff_iff]; simp only [beq_iff_eq]; omega
    · rw [if_neg e]; simp [e]
  | succ n ih =>
    intro k a b i h1 h2 h3 h4 h5 h6
    obtain ⟨k, rfl⟩ : ∃ m, k = m + 2 := ⟨k - 2, by omega⟩
    by_cases hi : i < a.length
    · by_cases hj : i < b.length
      · have e1 : rd a (i : Int) = a[i] := by unfold rd; simp [hi]
        have e2 : rd b (i : Int) = b[i] := by unfold rd; simp [hj]
        rw [amanuensislaw01_UtfOrder.l0, if_pos (by omega), decide_eq_true (by omega), amanuensislaw01_UtfOrder.j2]
        simp only [if_true]
        rw [if_pos (by omega), if_pos (by omega), if_pos (by omega), e1, e2, List.drop_eq_getElem_cons hi, List.drop_eq_getElem_cons hj, ordL]
        by_cases e : a[i] = b[i]
        · rw [if_pos e, if_pos e, w64_in (by omega) (by omega)]
          have := ih k a b (i + 1) h1 h2 (by omega) (by omega) (by omega) (by omega)
          rw [Int.natCast_add] at this
          exact this
        · rw [if_neg e, if_neg e, answers_is k (by omega)]
          rfl
      · rw [amanuensislaw01_UtfOrder.l0, if_pos (by omega), decide_eq_false (by omega), amanuensislaw01_UtfOrder.j2, answers_is k (by omega), show b.drop i = [] from List.drop_eq_nil_of_le (by omega), List.drop_eq_getElem_cons hi]
        simp only [Bool.false_eq_true, if_false, Option.bind_some, if_true, ordL, List.length_cons, List.length_drop]
        by_cases e : r = s
        · rw [if_pos e]
          simp only [e, decide_true, Bool.true_and, Option.some.injEq]
          rw [Bool.eq_iff_iff]; simp only [beq_iff_eq]; omega
        · rw [if_neg e]; simp [e]
    · rw [amanuensislaw01_UtfOrder.l0, if_neg (by omega), amanuensislaw01_UtfOrder.j2, answers_is k (by omega), show a.drop i = [] from List.drop_eq_nil_of_le (by omega)]
      simp only [Bool.false_eq_true, if_false, Option.bind_some, if_true, ordL, List.length_drop]
      by_cases e : r = s
      · rw [if_pos e]
        simp only [e, decide_true, Bool.true_and, Option.some.injEq]
        rw [Bool.eq_iff_iff]; simp only [beq_iff_eq]; omega
      · rw [if_neg e]; simp [e]

theorem ordL_refl (r : Int) (a : List Int) : ordL r r a a = true := by
  induction a with
  | nil => simp [ordL]
  | cons x a ih => rw [ordL, if_pos rfl]; exact ih

theorem ordL_head {r s x y : Int} {a b : List Int} (h : x ≠ y) (g : x < y ↔ r < s) : ordL r s (x :: a) (y :: b) = true := by
  rw [ordL, if_neg h]; simp [g]
theorem ordL_tail {r s x y : Int} {a b : List Int} (h : x = y → ordL r s a b = true) (g : x ≠ y → (x < y ↔ r < s)) : ordL r s (x :: a) (y :: b) = true := by
  by_cases e : x = y
  · rw [ordL, if_pos e]; exact h e
  · exact ordL_head e (g e)

theorem ordL_enc (r s : Int) (hr : scal r) (hs : scal s) : ordL r s (enc r) (enc s) = true := by
  by_cases e : r = s
  · subst e; exact ordL_refl _ _
  have cr := len_cases r
  have cs := len_cases s
  rcases cr with h | h | h | h | h
  · exact absurd hr h.1
  · rw [(enc_1 ⟨h.2.1, h.2.2.1⟩).2]
    rcases cs with g | g | g | g | g
    · exact absurd hs g.1
    · rw [(enc_1 ⟨g.2.1, g.2.2.1⟩).2]; exact ordL_head (by omega) (by omega)
    · rw [(enc_2 ⟨g.2.1, g.2.2.1⟩).2]; exact ordL_head (by omega) (by omega)
    · rw [(enc_3 ⟨g.2.1, g.2.2.1⟩ g.1).2]; exact ordL_head (by omega) (by omega)
    · rw [(enc_4 ⟨g.2.1, g.2.2.1⟩).2]; exact ordL_head (by omega) (by omega)
  · rw [(enc_2 ⟨h.2.1, h.2.2.1⟩).2]
    rcases cs with g | g | g | g | g
    · exact absurd hs g.1
    · rw [(enc_1 ⟨g.2.1, g.2.2.1⟩).2]; exact ordL_head (by omega) (by omega)
    · rw [(enc_2 ⟨g.2.1, g.2.2.1⟩).2]; exact ordL_tail (fun _ => ordL_head (by omega) (by omega)) (fun _ => by omega)
    · rw [(enc_3 ⟨g.2.1, g.2.2.1⟩ g.1).2]; exact ordL_head (by omega) (by omega)
    · rw [(enc_4 ⟨g.2.1, g.2.2.1⟩).2]; exact ordL_head (by omega) (by omega)
  · rw [(enc_3 ⟨h.2.1, h.2.2.1⟩ h.1).2]
    rcases cs with g | g | g | g | g
    · exact absurd hs g.1
    · rw [(enc_1 ⟨g.2.1, g.2.2.1⟩).2]; exact ordL_head (by omega) (by omega)
    · rw [(enc_2 ⟨g.2.1, g.2.2.1⟩).2]; exact ordL_head (by omega) (by omega)
    · rw [(enc_3 ⟨g.2.1, g.2.2.1⟩ g.1).2]; exact ordL_tail (fun _ => ordL_tail (fun _ => ordL_head (by omega) (by omega)) (fun _ => by omega)) (fun _ => by omega)
    · rw [(enc_4 ⟨g.2.1, g.2.2.1⟩).2]; exact ordL_head (by omega) (by omega)
  · rw [(enc_4 ⟨h.2.1, h.2.2.1⟩).2]
    rcases cs with g | g | g | g | g
    · exact absurd hs g.1
    · rw [(enc_1 ⟨g.2.1, g.2.2.1⟩).2]; exact ordL_head (by omega) (by omega)
    · rw [(enc_2 ⟨g.2.1, g.2.2.1⟩).2]; exact ordL_head (by omega) (by omega)
    · rw [(enc_3 ⟨g.2.1, g.2.2.1⟩ g.1).2]; exact ordL_head (by omega) (by omega)
    · rw [(enc_4 ⟨g.2.1, g.2.2.1⟩).2]; exact ordL_tail (fun _ => ordL_tail (fun _ => ordL_tail (fun _ => ordL_head (by omega) (by omega)) (fun _ => by omega)) (fun _ => by omega)) (fun _ => by omega)

theorem UtfOrder : amanuensislaw01_UtfOrder.Pure := by
  intro r s _ _
  refine ⟨100, ?_⟩
  unfold amanuensislaw01_UtfOrder.f
  rw [encode_is _ [r] (by simp) (by simp), encode_is _ [s] (by simp) (by simp)]
  by_cases hr : scal r
  · simp only [Option.bind_some, encL, if_pos hr, List.nil_append, if_true]
    by_cases hs : scal s
    · simp only [if_pos hs]
      rw [amanuensislaw01_UtfOrder.j0]
      rw [if_neg (by decide)]
      have := order_loop r s 4 99 (enc r) (enc s) 0 (enc_length r) (enc_length s) (by omega) (by omega) (by have := enc_length r; omega) (by omega)
      rw [List.drop_zero, List.drop_zero, ordL_enc r s hr hs] at this
      exact this
    · simp only [if_neg hs]
      rw [amanuensislaw01_UtfOrder.j0, if_pos (by decide), answers_is _ (by omega)]
      rfl
  · simp only [Option.bind_some, encL, if_neg hr]
    rw [if_neg (by decide), amanuensislaw01_UtfOrder.j0]
    simp only [if_true]
    rw [answers_is _ (by omega)]
    rfl

end Go.Proofs.Ytmebmigolckeiaa.Pure
