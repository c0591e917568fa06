/- The statement UtfJoins of layer 1, over numbers and lists alone: bytes of characters, one behind the other, are read as these; cut off within one they are told where it begins.
   Conditions: none; for every two lists of numbers of the kind int32 that a slice may hold, and every number of the kind uint8. -/
import Derived.Test.YtmebmigolckeiaaPUtfJoinsx1
namespace Go.Proofs.Ytmebmigolckeiaa.Pure
open Go.RowKit Go.Proofs.Ytmebmigolckeiaa.PUtfEncodes Go.Proofs.Ytmebmigolckeiaa.PUtfJoins Go.Proofs.YtmebmigolckeiaaW.PrintWords Go.Proofs.YtmebmigolckeiaaW.PrintLast Go.Proofs.YtmebmigolckeiaaW.PrintMore

theorem w32_in {n : Int} (h1 : -2147483648 ≤ n) (h2 : n ≤ 2147483647) : wrap32 n = n := by unfold wrap32; omega
theorem w64_in {n : Int} (h1 : -9223372036854775 ≤ n) (h2 : n ≤ 9223372036854775) : wrap64 n = n := by unfold wrap64; omega
theorem i32_wf {a : Int} (h : (Lit.int .i32 a).wf = true) : -2147483648 ≤ a ∧ a ≤ 2147483647 := by
  have h' : IntKind.i32.min ≤ a ∧ a ≤ IntKind.i32.max := by simpa [Lit.wf] using h
  have e1 : IntKind.i32.min = -2147483648 := by decide
  have e2 : IntKind.i32.max = 2147483647 := by decide
  omega
theorem u8_wf {a : Int} (h : (Lit.int .u8 a).wf = true) : 0 ≤ a ∧ a ≤ 255 := by
  have h' : IntKind.u8.min ≤ a ∧ a ≤ IntKind.u8.max := by simpa [Lit.wf] using h
  have e1 : IntKind.u8.min = 0 := by decide
  have e2 : IntKind.u8.max = 255 := by decide
  omega
theorem u32_wf {a : Int} (h : (Lit.int .u32 a).wf = true) : 0 ≤ a ∧ a ≤ 4294967295 := by
  have h' : IntKind.u32.min ≤ a ∧ a ≤ IntKind.u32.max := by simpa [Lit.wf] using h
  have e1 : IntKind.u32.min = 0 := by decide
  have e2 : IntKind.u32.max = 4294967295 := by decide
  omega

/-- A scalar. -/
def scal (r : Int) : Prop := 0 ≤ r ∧ r ≤ 1114111 ∧ (r < 55296 ∨ 57343 < r)
instance (r : Int) : Decidable (scal r) := by unfold scal; infer_instance
/-- How many bytes it has. -/
def len (r : Int) : Int := if scal r then (if r < 128 then 1 else if r < 2048 then 2 else if r < 65536 then 3 else 4) else 0
/-- Its bytes. -/
def enc (r : Int) : List Int :=
  if scal r then (if r < 128 then [r] else if r < 2048 then [192 + r / 64, 128 + r % 64] else if r < 65536 then [224 + r / 4096, 128 + r / 64 % 64, 128 + r % 64]
    else [240 + r / 262144, 128 + r / 4096 % 64, 128 + r / 64 % 64, 128 + r % 64]) else []

theorem enc_1 {r : Int} (h : 0 ≤ r ∧ r < 128) : len r = 1 ∧ enc r = [r] := by
  have hs : scal r := by unfold scal; omega
  unfold len enc
  rw [if_pos hs, if_pos hs, if_pos h.2, if_pos h.2]
  exact ⟨rfl, rfl⟩
theorem enc_2 {r : Int} (h : 128 ≤ r ∧ r < 2048) : len r = 2 ∧ enc r = [192 + r / 64, 128 + r % 64] := by
  have hs : scal r := by unfold scal; omega
  unfold len enc
  rw [if_pos hs, if_pos hs, if_neg (by omega), if_pos h.2, if_neg (by omega), if_pos h.2]
  exact ⟨rfl, rfl⟩
theorem enc_3 {r : Int} (h : 2048 ≤ r ∧ r < 65536) (hs : scal r) : len r = 3 ∧ enc r = [224 + r / 4096, 128 + r / 64 % 64, 128 + r % 64] := by
  unfold len enc
  rw [if_pos hs, if_pos hs, if_neg (by omega), if_neg (by omega), if_pos h.2, if_neg (by omega), if_neg (by omega), if_pos h.2]
  exact ⟨rfl, rfl⟩
theorem enc_4 {r : Int} (h : 65536 ≤ r ∧ r ≤ 1114111) : len r = 4 ∧ enc r = [240 + r / 262144, 128 + r / 4096 % 64, 128 + r / 64 % 64, 128 + r % 64] := by
  have hs : scal r := by unfold scal; omega
  unfold len enc
  rw [if_pos hs, if_pos hs, if_neg (by omega), if_neg (by omega), if_neg (by omega), if_neg (by omega), if_neg (by omega), if_neg (by omega)]
  exact ⟨rfl, rfl⟩
theorem enc_0 {r : Int} (h : ¬ scal r) : len r = 0 ∧ enc r = [] := by
  unfold len enc
  rw [if_neg h, if_neg h]
  exact ⟨rfl, rfl⟩
theorem scal_range {r : Int} (h : scal r) : 0 ≤ r ∧ r ≤ 1114111 := by unfold scal at h; omega
/-- By how many bytes it is. -/
theorem len_cases (r : Int) : (¬ scal r ∧ len r = 0) ∨ (scal r ∧ 0 ≤ r ∧ r < 128 ∧ len r = 1) ∨ (scal r ∧ 128 ≤ r ∧ r < 2048 ∧ len r = 2) ∨ (scal r ∧ 2048 ≤ r ∧ r < 65536 ∧ len r = 3) ∨ (scal r ∧ 65536 ≤ r ∧ r ≤ 1114111 ∧ len r = 4) := by
  by_cases hs : scal r
  · have hr := scal_range hs
    by_cases h1 : r < 128
    · exact Or.inr (Or.inl ⟨hs, hr.1, h1, (enc_1 ⟨hr.1, h1⟩).1⟩)
    by_cases h2 : r < 2048
    · exact Or.inr (Or.inr (Or.inl ⟨hs, by omega, h2, (enc_2 ⟨by omega, h2⟩).1⟩))
    by_cases h3 : r < 65536
    · exact Or.inr (Or.inr (Or.inr (Or.inl ⟨hs, by omega, h3, (enc_3 ⟨by omega, h3⟩ hs).1⟩)))
    · exact Or.inr (Or.inr (Or.inr (Or.inr ⟨hs, by omega, hr.2, (enc_4 ⟨by omega, hr.2⟩).1⟩)))
  · exact Or.inl ⟨hs, (enc_0 hs).1⟩
theorem len_range (r : Int) : 0 ≤ len r ∧ len r ≤ 4 := by
  unfold len
  repeat' split
  all_goals omega
theorem enc_len (r : Int) : ((enc r).length : Int) = len r := by
  unfold enc len
  repeat' split
  all_goals rfl

/-- A byte that follows. -/
def cont (b : Int) : Prop := 128 ≤ b ∧ b ≤ 191
instance (b : Int) : Decidable (cont b) := by unfold cont; infer_instance

/-- The scalar that bytes begin with, and how many they are. -/
def dec1 (l : List Int) : Int × Int :=
  match l with
  | [] => (0, 0)
  | a :: t =>
    if a < 128 then (a, 1)
    else if 194 ≤ a ∧ a < 224 then
      (match t with
      | b :: _ => if cont b then ((a - 192) * 64 + (b - 128), 2) else (0, 0)
      | _ => (0, 0))
    else if 224 ≤ a ∧ a < 240 then
      (match t with
      | b :: c :: _ => if cont b ∧ cont c ∧ len ((a - 224) * 4096 + (b - 128) * 64 + (c - 128)) = 3 then ((a - 224) * 4096 + (b - 128) * 64 + (c - 128), 3) else (0, 0)
      | _ => (0, 0))
    else if 240 ≤ a ∧ a < 245 then
      (match t with
      | b :: c :: d :: _ => if cont b ∧ cont c ∧ cont d ∧ len ((a - 240) * 262144 + (b - 128) * 4096 + (c - 128) * 64 + (d - 128)) = 4 then ((a - 240) * 262144 + (b - 128) * 4096 + (c - 128) * 64 + (d - 128), 4) else (0, 0)
      | _ => (0, 0))
    else (0, 0)

theorem dec1_cons (a : Int) (t : List Int) : dec1 (a :: t) =
    ((if a < 128 then (a, 1)
    else if 194 ≤ a ∧ a < 224 then
      (match t with
      | b :: _ => if cont b then ((a - 192) * 64 + (b - 128), 2) else (0, 0)
      | _ => (0, 0))
    else if 224 ≤ a ∧ a < 240 then
      (match t with
      | b :: c :: _ => if cont b ∧ cont c ∧ len ((a - 224) * 4096 + (b - 128) * 64 + (c - 128)) = 3 then ((a - 224) * 4096 + (b - 128) * 64 + (c - 128), 3) else (0, 0)
      | _ => (0, 0))
    else if 240 ≤ a ∧ a < 245 then
      (match t with
      | b :: c :: d :: _ => if cont b ∧ cont c ∧ cont d ∧ len ((a - 240) * 262144 + (b - 128) * 4096 + (c - 128) * 64 + (d - 128)) = 4 then ((a - 240) * 262144 + (b - 128) * 4096 + (c - 128) * 64 + (d - 128), 4) else (0, 0)
      | _ => (0, 0))
    else (0, 0)) : Int × Int) := rfl
theorem dec1_range (l : List Int) : 0 ≤ (dec1 l).2 ∧ (dec1 l).2 ≤ l.length := by
  unfold dec1
  repeat' split
  all_goals first | (simp; done) | (simp only [List.length_cons, List.length_nil, Nat.cast_add, Nat.cast_one]; omega) | (simp only [List.length_cons]; omega)

/-- All bytes. -/
def bytes (l : List Int) : Prop := ∀ x ∈ l, 0 ≤ x ∧ x ≤ 255
theorem bytes_drop {l : List Int} (h : bytes l) (n : Nat) : bytes (l.drop n) := fun x hx => h x (List.mem_of_mem_drop hx)

theorem scalar_is (r : Int) : utf_Scalar.f r = some (decide (scal r)) := by
  unfold utf_Scalar.f
  by_cases h : scal r
  · rw [decide_eq_true h]
    unfold scal at h
    rw [if_pos (by omega), if_pos (by omega)]
    split
    · rfl
    · rw [decide_eq_true (by omega)]
  · rw [decide_eq_false h]
    unfold scal at h
    split
    · split
      · rw [if_neg (by omega), decide_eq_false (by omega)]
      · rfl
    · rfl

theorem len_is (r : Int) : utf_Len.f r = some (len r) := by
  unfold utf_Len.f len
  rw [scalar_is]
  by_cases h : scal r
  · simp only [h, decide_true, Option.bind_some, if_true]
    repeat' split
    all_goals rfl
  · simp only [h, decide_false, Option.bind_some, Bool.false_eq_true, if_false]

/-- What a first byte begins. -/
def size1 (a : Int) : Int := if a < 128 then 1 else if 194 ≤ a ∧ a < 224 then 2 else if 224 ≤ a ∧ a < 240 then 3 else if 240 ≤ a ∧ a < 245 then 4 else 0
theorem size_is (k : Nat) (hk : 3 ≤ k) (a : Int) : utf_size.f k a = some (size1 a) := by
  obtain ⟨k, rfl⟩ : ∃ m, k = m + 3 := ⟨k - 3, by omega⟩
  unfold utf_size.f size1
  by_cases h1 : a < 128
  · rw [if_pos h1, if_pos h1]
  rw [if_neg h1, if_neg h1]
  by_cases h2 : 194 ≤ a ∧ a < 224
  · rw [if_pos h2.1, if_pos h2, decide_eq_true h2.2]; simp only [utf_size.j0, if_true]
  have e : (if a ≥ 194 then (utf_size.j0 (k + 3) a (decide (a < 224))) else (utf_size.j0 (k + 3) a false)) = utf_size.j0 (k + 3) a false := by
    split
    · rw [decide_eq_false (by omega)]
    · rfl
  rw [e, if_neg h2]
  simp only [utf_size.j0, Bool.false_eq_true, if_false]
  by_cases h3 : 224 ≤ a ∧ a < 240
  · rw [if_pos h3.1, if_pos h3, decide_eq_true h3.2]; simp only [utf_size.j1, if_true]
  have e : (if a ≥ 224 then (utf_size.j1 (k + 2) a (decide (a < 240))) else (utf_size.j1 (k + 2) a false)) = utf_size.j1 (k + 2) a false := by
    split
    · rw [decide_eq_false (by omega)]
    · rfl
  rw [e, if_neg h3]
  simp only [utf_size.j1, Bool.false_eq_true, if_false]
  by_cases h4 : 240 ≤ a
  · rw [if_pos h4]
    by_cases h5 : a < 245
    · rw [if_pos h5, if_pos ⟨h4, h5⟩]
    · rw [if_neg h5, if_neg (by omega)]
  · rw [if_neg h4, if_neg (by omega)]

/-- What a first byte's upper bits leave. -/
def body1 (a : Int) : Int := if a < 128 then a else if a < 224 then a - 192 else if a < 240 then a - 224 else a - 240
theorem mask_head : ∀ a : Fin 256, size1 (a.val : Int) ≠ 0 → wrap32 (Go.bits .andNot .u8 (a.val : Int) (if size1 (a.val : Int) = 2 then 192 else if size1 (a.val : Int) = 3 then 224 else if size1 (a.val : Int) = 4 then 240 else 0)) = body1 (a.val : Int) := by decide +kernel
theorem mask_cont : ∀ a : Fin 256, Go.bits .andNot .u8 (a.val : Int) 63 = 128 ↔ cont (a.val : Int) := by decide +kernel
theorem mask_cont' (a : Int) (h0 : 0 ≤ a) (h1 : a ≤ 255) : Go.bits .andNot .u8 a 63 = 128 ↔ cont a := by
  have := mask_cont ⟨a.toNat, by omega⟩
  have e : ((a.toNat : Nat) : Int) = a := by omega
  simpa [e] using this
theorem mask_head' (a : Int) (h0 : 0 ≤ a) (h1 : a ≤ 255) (hs : size1 a ≠ 0) : wrap32 (Go.bits .andNot .u8 a (if size1 a = 2 then 192 else if size1 a = 3 then 224 else if size1 a = 4 then 240 else 0)) = body1 a := by
  have := mask_head ⟨a.toNat, by omega⟩
  have e : ((a.toNat : Nat) : Int) = a := by omega
  simp only [e] at this
  exact this hs
theorem head_is (n : Int) : utf_head.f n = some (if n = 2 then 192 else if n = 3 then 224 else if n = 4 then 240 else 0) := by
  unfold utf_head.f
  repeat' split
  all_goals rfl

/-- The bytes that follow, taken into the number. -/
def eat (r : Int) : List Int → Option Int
  | [] => some r
  | b :: t => if cont b then eat (r * 64 + (b - 128)) t else none

theorem next_loop (n : Int) : ∀ (m : Nat) (k : Nat) (l : List Int) (i : Nat) (r : Int), l.length - i = m → m + 1 ≤ k → l.length ≤ 3 → i ≤ l.length → bytes l → 0 ≤ r → r < 64 * 64 ^ i →
    utf_next.l0 k n r l (l.length : Int) (i : Int) = some (match eat r (l.drop i) with | some x => if len x = n then (x, n) else (0, 0) | none => (0, 0)) := by
  intro m
  induction m with
  | zero =>
    intro k l i r hm hk hl hi hb h0 h1
    obtain ⟨k, rfl⟩ : ∃ m, k = m + 1 := ⟨k - 1, by omega⟩
    rw [utf_next.l0, if_neg (by omega), List.drop_eq_nil_of_le (by omega)]
    simp only [eat, len_is, Option.bind_some]
    split <;> rfl
  | succ m ih =>
    intro k l i r hm hk hl hi hb h0 h1
    obtain ⟨k, rfl⟩ : ∃ m, k = m + 1 := ⟨k - 1, by omega⟩
    have hi' : i < l.length := by omega
    have hr : rd l (i : Int) = l[i] := by unfold rd; simp [hi']
    have hbi := hb l[i] (List.getElem_mem hi')
    rw [utf_next.l0, if_pos (by omega), if_pos (by omega), if_pos (by omega), hr, List.drop_eq_getElem_cons hi', eat]
    by_cases hc : cont l[i]
    · rw [if_pos ((mask_cont' _ hbi.1 hbi.2).2 hc), if_pos hc]
      have hc' : 128 ≤ l[i] ∧ l[i] ≤ 191 := hc
      have hsm : r < 64 * 64 ^ 2 := by
        have : (64 : Int) ^ i ≤ 64 ^ 2 := by
          have h2 : i ≤ 2 := by omega
          rcases i with _ | _ | _ | _
          · decide
          · decide
          · decide
          · omega
        omega
      rw [u8_and63 _ hbi.1 (by omega), w32_in (n := l[i] % 64) (by omega) (by omega), w32_in (n := r * 64) (by omega) (by omega), i32_or6 _ _ (by omega) (by omega) (by omega) (by omega) (by omega), w64_in (by omega) (by omega)]
      have e : r * 64 + l[i] % 64 = r * 64 + (l[i] - 128) := by omega
      rw [e]
      have hp : (64 : Int) ^ (i + 1) = 64 ^ i * 64 := Int.pow_succ _ _
      have := ih k l (i + 1) (r * 64 + (l[i] - 128)) (by omega) (by omega) hl (by omega) hb (by omega) (by omega)
      rw [Int.natCast_add] at this
      exact this
    · rw [if_neg (fun h => hc ((mask_cont' _ hbi.1 hbi.2).1 h)), if_neg hc]

theorem next_is (k : Nat) (hk : 10 ≤ k) (l : List Int) (hb : bytes l) (hl : l ≠ []) : utf_next.f k l = some (dec1 l) := by
  obtain ⟨k, rfl⟩ : ∃ m, k = m + 10 := ⟨k - 10, by omega⟩
  obtain ⟨a, t, rfl⟩ : ∃ a t, l = a :: t := by cases l with | nil => exact absurd rfl hl | cons a t => exact ⟨a, t, rfl⟩
  have ha := hb a (by simp)
  have hlen : (((a :: t).length : Nat) : Int) = (t.length : Int) + 1 := by simp
  have hr : rd (a :: t) 0 = a := rfl
  unfold utf_next.f
  rw [if_pos (by omega), hr, size_is _ (by omega)]
  simp only [Option.bind_some]
  by_cases hz : size1 a = 0 ∨ size1 a > ((a :: t).length : Int)
  · have e : (if size1 a = 0 then utf_next.j0 (k + 10) (a :: t) (size1 a) true else utf_next.j0 (k + 10) (a :: t) (size1 a) (decide (size1 a > ((a :: t).length : Int)))) = utf_next.j0 (k + 10) (a :: t) (size1 a) true := by
      split
      · rfl
      · rw [decide_eq_true (by omega)]
    rw [e, utf_next.j0]
    simp only [if_true]
    unfold size1 at hz
    rw [dec1_cons]
    rw [hlen] at hz
    by_cases g1 : a < 128
    · rw [if_pos g1] at hz; omega
    rw [if_neg g1] at hz ⊢
    by_cases g2 : 194 ≤ a ∧ a < 224
    · rw [if_pos g2] at hz ⊢
      have : t = [] := by cases t with | nil => rfl | cons b t => simp at hz; omega
      subst this; rfl
    rw [if_neg g2] at hz ⊢
    by_cases g3 : 224 ≤ a ∧ a < 240
    · rw [if_pos g3] at hz ⊢
      match t, hz with
      | [], _ => rfl
      | [_], _ => rfl
      | b :: c :: t, hz => simp at hz; omega
    rw [if_neg g3] at hz ⊢
    by_cases g4 : 240 ≤ a ∧ a < 245
    · rw [if_pos g4] at hz ⊢
      match t, hz with
      | [], _ => rfl
      | [_], _ => rfl
      | [_, _], _ => rfl
      | b :: c :: d :: t, hz => simp at hz; omega
    rw [if_neg g4]
  · have hz1 : size1 a ≠ 0 := fun h => hz (Or.inl h)
    have hz2 : ¬ size1 a > ((a :: t).length : Int) := fun h => hz (Or.inr h)
    rw [if_neg hz1, decide_eq_false hz2, utf_next.j0]
    simp only [Bool.false_eq_true, if_false, head_is, Option.bind_some]
    have hs : 1 ≤ size1 a ∧ size1 a ≤ 4 := by unfold size1 at *; repeat' split at *; all_goals omega
    rw [if_pos (by omega), if_pos hs.1, if_pos (by omega), hr, mask_head' a ha.1 ha.2 hz1]
    have hdl : (((a :: t).take (size1 a).toNat).drop 1) = t.take ((size1 a).toNat - 1) := by
      obtain ⟨m, hm⟩ : ∃ m, (size1 a).toNat = m + 1 := ⟨(size1 a).toNat - 1, by omega⟩
      rw [hm]; simp
    rw [hdl]
    have hbt : bytes (t.take ((size1 a).toNat - 1)) := fun x hx => hb x (List.mem_cons_of_mem _ (List.mem_of_mem_take hx))
    have hbl : 0 ≤ body1 a ∧ body1 a < 64 ∨ a < 128 := by
      unfold body1
      unfold size1 at hz1
      repeat' split
      all_goals (repeat' split at hz1)
      all_goals omega
    by_cases g1 : a < 128
    · have e1 : size1 a = 1 := by unfold size1; rw [if_pos g1]
      have e2 : body1 a = a := by unfold body1; rw [if_pos g1]
      have e3 : scal a := by unfold scal; omega
      have e4 : len a = 1 := by unfold len; rw [if_pos e3, if_pos g1]
      rw [e1, e2]
      simp only [Int.toNat_one, Nat.sub_self, List.take_zero, List.length_nil]
      rw [utf_next.l0, if_neg (by decide), len_is, e4]
      rw [dec1_cons]
      simp [g1]
    have hb2 : 0 ≤ body1 a ∧ body1 a < 64 := by omega
    have key := next_loop (size1 a) _ (k + 9) (t.take ((size1 a).toNat - 1)) 0 (body1 a) rfl (by rw [List.length_take]; omega) (by rw [List.length_take]; omega) (by omega) hbt hb2.1 (by simpa using hb2.2)
    rw [List.drop_zero] at key
    rw [show ((0 : Nat) : Int) = 0 from rfl] at key
    rw [key]
    unfold size1 at hz2 hs ⊢
    rw [dec1_cons]
    unfold body1
    rw [hlen] at hz2
    rw [if_neg g1] at hz2 hs ⊢
    simp only [if_neg g1]
    by_cases g2 : 194 ≤ a ∧ a < 224
    · simp only [if_pos g2, if_pos g2.2] at hz2 hs ⊢
      match t, hz2 with
      | [], hz2 => simp at hz2
      | b :: t, _ =>
        simp only [show (2 : Int).toNat - 1 = 1 from rfl, List.take_succ_cons, List.take_zero, eat]
        by_cases hc : cont b
        · rw [if_pos hc, if_pos hc]
          have hc' : 128 ≤ b ∧ b ≤ 191 := hc
          have e3 : scal ((a - 192) * 64 + (b - 128)) := by unfold scal; omega
          have e4 : len ((a - 192) * 64 + (b - 128)) = 2 := by unfold len; rw [if_pos e3, if_neg (by omega), if_pos (by omega)]
          simp only [e4, if_true]
        · rw [if_neg hc, if_neg hc]
    simp only [if_neg g2] at hz2 hs ⊢
    have g2' : ¬ a < 224 := by
      intro h
      rw [if_neg (by omega), if_neg (by omega)] at hs
      omega
    by_cases g3 : 224 ≤ a ∧ a < 240
    · simp only [if_pos g3, if_neg g2', if_pos g3.2] at hz2 hs ⊢
      match t, hz2 with
      | [], hz2 => simp at hz2
      | [_], hz2 => simp at hz2
      | b :: c :: t, _ =>
        simp only [show (3 : Int).toNat - 1 = 2 from rfl, List.take_succ_cons, List.take_zero, eat]
        by_cases hc : cont b
        · by_cases hd : cont c
          · rw [if_pos hc, if_pos hd]
            have e : ((a - 224) * 64 + (b - 128)) * 64 + (c - 128) = (a - 224) * 4096 + (b - 128) * 64 + (c - 128) := by omega
            simp only [e, hc, hd, true_and]
          · rw [if_pos hc, if_neg hd, if_neg (by simp [hd])]
        · rw [if_neg hc, if_neg (by simp [hc])]
    simp only [if_neg g3] at hz2 hs ⊢
    have g3' : ¬ a < 240 := by omega
    by_cases g4 : 240 ≤ a ∧ a < 245
    · simp only [if_pos g4, if_neg g2', if_neg g3'] at hz2 hs ⊢
      match t, hz2 with
      | [], hz2 => simp at hz2
      | [_], hz2 => simp at hz2
      | [_, _], hz2 => simp at hz2
      | b :: c :: d :: t, _ =>
        simp only [show (4 : Int).toNat - 1 = 3 from rfl, List.take_succ_cons, List.take_zero, eat]
        by_cases hc : cont b
        · by_cases hd : cont c
          · by_cases he : cont d
            · rw [if_pos hc, if_pos hd, if_pos he]
              have e : (((a - 240) * 64 + (b - 128)) * 64 + (c - 128)) * 64 + (d - 128) = (a - 240) * 262144 + (b - 128) * 4096 + (c - 128) * 64 + (d - 128) := by omega
              simp only [e, hc, hd, he, true_and]
            · rw [if_pos hc, if_pos hd, if_neg he, if_neg (by simp [he])]
          · rw [if_pos hc, if_neg hd, if_neg (by simp [hd])]
        · rw [if_neg hc, if_neg (by simp [hc])]
    simp only [if_neg g4] at hs
    omega

/-- The scalars of bytes, or the place where none begins: with fuel, from a place on. -/
def decL : Nat → List Int → Int → List Int → List Int × Int × Int
  | 0, _, _, _ => ([], 0, 0)
  | n + 1, l, p, acc => if l = [] then (acc, 0, 0) else if (dec1 l).2 = 0 then ([], 2, p) else decL n (l.drop (dec1 l).2.toNat) (p + (dec1 l).2) (acc ++ [(dec1 l).1])

theorem decode_loop : ∀ (n k : Nat) (x acc : List Int) (i : Nat), i ≤ x.length → x.length - i < n → n + 12 ≤ k → acc.length ≤ i → bytes x → x.length ≤ 100000000 →
    utf_Decode.l0 k x acc (i : Int) = some (decL n (x.drop i) (i : Int) acc) := by
  intro n
  induction n with
  | zero => intro k x acc i h1 h2; omega
  | succ n ih =>
    intro k x acc i h1 h2 h3 h4 hb hl
    obtain ⟨k, rfl⟩ : ∃ m, k = m + 1 := ⟨k - 1, by omega⟩
    rw [utf_Decode.l0, decL]
    by_cases hi : i < x.length
    · have hne : x.drop i ≠ [] := by
        intro h
        have := congrArg List.length h
        rw [List.length_drop, List.length_nil] at this
        omega
      rw [if_pos (by omega), if_pos (by omega), if_pos (by omega), Int.toNat_natCast, next_is k (by omega) _ (bytes_drop hb i) hne, if_neg hne]
      simp only [Option.bind_some]
      by_cases hz : (dec1 (x.drop i)).2 = 0
      · rw [if_pos hz, if_pos hz]
      · rw [if_neg hz, if_neg hz, if_pos (by omega)]
        have hr := dec1_range (x.drop i)
        rw [List.length_drop] at hr
        rw [w64_in (by omega) (by omega)]
        have e : (i : Int) + (dec1 (x.drop i)).2 = ((i + (dec1 (x.drop i)).2.toNat : Nat) : Int) := by omega
        rw [List.drop_drop, e]
        exact ih k x _ _ (by omega) (by omega) (by omega) (by simp only [List.length_append, List.length_cons, List.length_nil]; omega) hb hl
    · rw [if_neg (by omega), if_pos (List.drop_eq_nil_of_le (by omega))]

theorem decode_is (k : Nat) (x : List Int) (hk : x.length + 14 ≤ k) (hb : bytes x) (hl : x.length ≤ 100000000) : utf_Decode.f k x = some (decL (x.length + 1) x 0 []) := by
  unfold utf_Decode.f
  exact decode_loop (x.length + 1) k x [] 0 (by omega) (by omega) (by omega) (by simp) hb hl

theorem answers_is (k : Nat) (hk : 20 ≤ k) : amanuensislaw01_answers.f k = some true := by
  unfold amanuensislaw01_answers.f
  rw [decode_is k [195, 169] (by simp; omega) (by intro x hx; simp at hx; omega) (by simp), len_is]
  have e : decL 3 [195, 169] 0 [] = ([233], 0, 0) := by decide +kernel
  have e2 : len 19968 = 3 := by decide
  simp only [List.length_cons, List.length_nil, Nat.zero_add, e, e2, Option.bind_some]
  decide

/-- All bytes of characters. -/
def flat : List Int → List Int
  | [] => []
  | r :: t => enc r ++ flat t
theorem flat_append (a b : List Int) : flat (a ++ b) = flat a ++ flat b := by
  induction a with
  | nil => rfl
  | cons x a ih => simp [flat, ih]
theorem enc_length (r : Int) : (enc r).length ≤ 4 := by have := enc_len r; have := len_range r; omega
theorem flat_length (l : List Int) : (flat l).length ≤ 4 * l.length := by
  induction l with
  | nil => simp [flat]
  | cons x a ih => have := enc_length x; simp only [flat, List.length_append, List.length_cons]; omega

/-- The bytes of characters, or the first that is none. -/
def encL : List Int → Int → List Int → List Int × Int × Int
  | [], _, acc => (acc, 0, 0)
  | r :: t, p, acc => if scal r then encL t (p + 1) (acc ++ enc r) else ([], 2, p)

theorem encL_all (l : List Int) : ∀ (p : Int) (acc : List Int), (∀ r ∈ l, scal r) → encL l p acc = (acc ++ flat l, 0, 0) := by
  induction l with
  | nil => intro p acc _; simp [encL, flat]
  | cons r t ih =>
    intro p acc h
    rw [encL, if_pos (h r (by simp)), ih _ _ (fun x hx => h x (List.mem_cons_of_mem _ hx))]
    simp [flat]
theorem encL_cases (l : List Int) : ∀ (p : Int) (acc : List Int), ((∀ r ∈ l, scal r) ∧ encL l p acc = (acc ++ flat l, 0, 0)) ∨ (¬ (∀ r ∈ l, scal r) ∧ ∃ q, encL l p acc = ([], 2, q)) := by
  induction l with
  | nil => intro p acc; exact Or.inl ⟨fun r hr => by simp at hr, by simp [encL, flat]⟩
  | cons r t ih =>
    intro p acc
    rw [encL]
    by_cases hs : scal r
    · rw [if_pos hs]
      rcases ih (p + 1) (acc ++ enc r) with ⟨h1, h2⟩ | ⟨h1, q, h2⟩
      · refine Or.inl ⟨fun x hx => ?_, by rw [h2]; simp [flat]⟩
        rcases List.mem_cons.1 hx with rfl | hx
        · exact hs
        · exact h1 x hx
      · exact Or.inr ⟨fun h => h1 (fun x hx => h x (List.mem_cons_of_mem _ hx)), q, h2⟩
    · rw [if_neg hs]
      exact Or.inr ⟨fun h => hs (h r (by simp)), p, rfl⟩

theorem dec1_enc (r : Int) (t : List Int) (hs : scal r) : dec1 (enc r ++ t) = (r, len r) := by
  rcases len_cases r with h | h | h | h | h
  · exact absurd hs h.1
  · rw [(enc_1 ⟨h.2.1, h.2.2.1⟩).2, h.2.2.2]
    simp only [List.cons_append, List.nil_append]
    rw [dec1_cons, if_pos h.2.2.1]
  · rw [(enc_2 ⟨h.2.1, h.2.2.1⟩).2, h.2.2.2]
    simp only [List.cons_append, List.nil_append]
    rw [dec1_cons, if_neg (by omega), if_pos (by omega)]
    have c : cont (128 + r % 64) := by unfold cont; omega
    simp only [if_pos c, Prod.mk.injEq, and_true]
    omega
  · rw [(enc_3 ⟨h.2.1, h.2.2.1⟩ h.1).2, h.2.2.2]
    simp only [List.cons_append, List.nil_append]
    rw [dec1_cons, if_neg (by omega), if_neg (by omega), if_pos (by omega)]
    have c : cont (128 + r % 64) := by unfold cont; omega
    have c2 : cont (128 + r / 64 % 64) := by unfold cont; omega
    have e : (224 + r / 4096 - 224) * 4096 + (128 + r / 64 % 64 - 128) * 64 + (128 + r % 64 - 128) = r := by omega
    have l : len r = 3 := h.2.2.2
    simp only [e, c, c2, l, and_self, if_true]
  · rw [(enc_4 ⟨h.2.1, h.2.2.1⟩).2, h.2.2.2]
    simp only [List.cons_append, List.nil_append]
    rw [dec1_cons, if_neg (by omega), if_neg (by omega), if_neg (by omega), if_pos (by omega)]
    have c : cont (128 + r % 64) := by unfold cont; omega
    have c2 : cont (128 + r / 64 % 64) := by unfold cont; omega
    have c3 : cont (128 + r / 4096 % 64) := by unfold cont; omega
    have e : (240 + r / 262144 - 240) * 262144 + (128 + r / 4096 % 64 - 128) * 4096 + (128 + r / 64 % 64 - 128) * 64 + (128 + r % 64 - 128) = r := by omega
    have l : len r = 4 := h.2.2.2
    simp only [e, c, c2, c3, l, and_self, if_true]

theorem len_pos {r : Int} (hs : scal r) : 1 ≤ len r := by
  rcases len_cases r with h | h | h | h | h
  · exact absurd hs h.1
  all_goals omega

theorem decL_flat (l : List Int) : ∀ (n : Nat) (t : List Int) (p : Int) (acc : List Int), (∀ r ∈ l, scal r) → decL (n + l.length) (flat l ++ t) p acc = decL n t (p + (flat l).length) (acc ++ l) := by
  induction l with
  | nil => intro n t p acc _; simp [flat]
  | cons r l ih =>
    intro n t p acc h
    have hs := h r (by simp)
    have hp := len_pos hs
    have hl := enc_len r
    rw [List.length_cons, ← Nat.add_assoc, decL]
    have hne : flat (r :: l) ++ t ≠ [] := by
      intro e
      have := congrArg List.length e
      simp only [flat, List.length_append, List.length_nil] at this
      omega
    have hd : dec1 (flat (r :: l) ++ t) = (r, len r) := by
      rw [flat, List.append_assoc]; exact dec1_enc r _ hs
    rw [if_neg hne, hd]
    simp only
    rw [if_neg (by omega)]
    have e : (len r).toNat = (enc r).length := by omega
    have hdrop : (flat (r :: l) ++ t).drop (len r).toNat = flat l ++ t := by
      rw [e, flat, List.append_assoc, List.drop_left]
    rw [hdrop, ih n t _ _ (fun x hx => h x (List.mem_cons_of_mem _ hx))]
    have e2 : p + len r + ((flat l).length : Int) = p + ((flat (r :: l)).length : Int) := by
      simp only [flat, List.length_append]; omega
    rw [e2]
    simp
theorem decL_nil (n : Nat) (p : Int) (acc : List Int) : decL (n + 1) [] p acc = (acc, 0, 0) := by rw [decL, if_pos rfl]
/-- Bytes of characters are read as these. -/
theorem decL_all (l : List Int) (h : ∀ r ∈ l, scal r) (n : Nat) (hn : l.length < n) : decL n (flat l) 0 [] = (l, 0, 0) := by
  obtain ⟨m, rfl⟩ : ∃ m, n = (m + 1) + l.length := ⟨n - l.length - 1, by omega⟩
  have := decL_flat l (m + 1) [] 0 [] h
  rw [List.append_nil] at this
  rw [this, decL_nil]; simp
theorem flat_ge (l : List Int) (h : ∀ r ∈ l, scal r) : l.length ≤ (flat l).length := by
  induction l with
  | nil => simp
  | cons r l ih =>
    have := ih (fun x hx => h x (List.mem_cons_of_mem _ hx))
    have hp := len_pos (h r (by simp))
    have hl := enc_len r
    simp only [flat, List.length_append, List.length_cons]
    omega
theorem enc_bytes (r : Int) : bytes (enc r) := by
  intro x hx
  rcases len_cases r with h | h | h | h | h
  · rw [(enc_0 h.1).2] at hx; simp at hx
  · rw [(enc_1 ⟨h.2.1, h.2.2.1⟩).2] at hx; simp only [List.mem_cons, List.not_mem_nil, or_false] at hx; omega
  · rw [(enc_2 ⟨h.2.1, h.2.2.1⟩).2] at hx; simp only [List.mem_cons, List.not_mem_nil, or_false] at hx; omega
  · rw [(enc_3 ⟨h.2.1, h.2.2.1⟩ h.1).2] at hx; simp only [List.mem_cons, List.not_mem_nil, or_false] at hx; omega
  · rw [(enc_4 ⟨h.2.1, h.2.2.1⟩).2] at hx; simp only [List.mem_cons, List.not_mem_nil, or_false] at hx; omega
theorem flat_bytes (l : List Int) : bytes (flat l) := by
  induction l with
  | nil => intro x hx; simp [flat] at hx
  | cons r l ih =>
    intro x hx
    rw [flat, List.mem_append] at hx
    rcases hx with hx | hx
    · exact enc_bytes r x hx
    · exact ih x hx

theorem runes_loop (l : List Int) (hn : l.length ≤ 100000000) (d : Nat) : ∀ (k : Nat) (i : Int), 0 ≤ i → (l.length : Int) - i ≤ d → d < k → amanuensisref01_Runes.l0 k l l i = some true := by
  induction d with
  | zero =>
    intro k i h0 hd hk
    obtain ⟨k, rfl⟩ : ∃ m, k = m + 1 := ⟨k - 1, by omega⟩
    rw [amanuensisref01_Runes.l0, if_neg (by omega)]
  | succ d ih =>
    intro k i h0 hd hk
    obtain ⟨k, rfl⟩ : ∃ m, k = m + 1 := ⟨k - 1, by omega⟩
    rw [amanuensisref01_Runes.l0]
    by_cases hlt : i < (l.length : Int)
    · simp only [if_pos hlt, if_pos h0, if_true]; rw [w64_in (by omega) (by omega)]
      exact ih k (i + 1) (by omega) (by omega) (by omega)
    · rw [if_neg hlt]
theorem runes_same (k : Nat) (l : List Int) (hk : l.length + 1 ≤ k) (hn : l.length ≤ 100000000) : amanuensisref01_Runes.f k l l = some true := by
  unfold amanuensisref01_Runes.f
  simp only [if_true]
  exact runes_loop l hn l.length k 0 (by omega) (by omega) (by omega)

theorem ref_scalar_is (r : Int) : amanuensisref01_Scalar.f r = some (decide (scal r)) := by
  unfold amanuensisref01_Scalar.f
  by_cases h : scal r
  · rw [decide_eq_true h]
    unfold scal at h
    rw [if_pos (by omega), if_pos (by omega)]
    split
    · rw [decide_eq_false (by omega)]; rfl
    · rfl
  · rw [decide_eq_false h]
    unfold scal at h
    split
    · split
      · rw [if_pos (by omega), decide_eq_true (by omega)]; rfl
      · rfl
    · rfl

theorem ref_len_is (k : Nat) (hk : 1 ≤ k) (r : Int) : amanuensisref01_Len.f k r = some (len r) := by
  obtain ⟨k, rfl⟩ : ∃ m, k = m + 1 := ⟨k - 1, by omega⟩
  unfold amanuensisref01_Len.f len
  rw [ref_scalar_is]
  by_cases h : scal r
  · simp only [h, decide_true, Option.bind_some, if_true]
    by_cases h1 : r ≥ 128
    · rw [if_pos h1, if_neg (by omega), amanuensisref01_Len.j0]
      by_cases h2 : r ≥ 2048
      · rw [if_pos h2]
        by_cases h3 : r ≥ 65536
        · rw [if_pos h3, if_neg (by omega), if_neg (by omega)]
        · rw [if_neg h3, if_neg (by omega), if_pos (by omega)]
      · rw [if_neg h2, if_neg (by omega), if_pos (by omega)]
    · rw [if_neg h1, if_pos (by omega), amanuensisref01_Len.j0, if_neg (by omega), if_neg (by omega)]
  · simp only [h, decide_false, Option.bind_some, Bool.false_eq_true, if_false]


theorem ref_one_is (k : Nat) (hk : 1 ≤ k) (r : Int) : amanuensisref01_One.f k r = some (enc r) := by
  unfold amanuensisref01_One.f
  rw [ref_len_is k hk]
  simp only [Option.bind_some]
  unfold len enc
  by_cases h : scal r
  · have h' : 0 ≤ r ∧ r ≤ 1114111 := by unfold scal at h; omega
    rw [if_pos h, if_pos h]
    by_cases h1 : r < 128
    · rw [if_pos h1, if_pos h1]
      simp (disch := omega) only [w64_in, if_true]
      rw [Int.emod_eq_of_lt (by omega) (by omega)]
    · rw [if_neg h1, if_neg h1]
      by_cases h2 : r < 2048
      · rw [if_pos h2, if_pos h2, if_neg (by decide), if_pos rfl]
        simp (disch := omega) only [w64_in, Int.tdiv_eq_ediv_of_nonneg, Int.tmod_eq_emod_of_nonneg]
        rw [Int.emod_eq_of_lt (a := 192 + r / 64) (by omega) (by omega), Int.emod_eq_of_lt (a := 128 + r % 64) (by omega) (by omega)]
      · rw [if_neg h2, if_neg h2]
        by_cases h3 : r < 65536
        · rw [if_pos h3, if_pos h3, if_neg (by decide), if_neg (by decide), if_pos rfl]
          simp (disch := omega) only [w64_in, Int.tdiv_eq_ediv_of_nonneg, Int.tmod_eq_emod_of_nonneg]
          rw [Int.emod_eq_of_lt (a := 224 + r / 4096) (by omega) (by omega), Int.emod_eq_of_lt (a := 128 + r / 64 % 64) (by omega) (by omega), Int.emod_eq_of_lt (a := 128 + r % 64) (by omega) (by omega)]
        · rw [if_neg h3, if_neg h3, if_neg (by decide), if_neg (by decide), if_neg (by decide), if_pos rfl]
          simp (disch := omega) only [w64_in, Int.tdiv_eq_ediv_of_nonneg, Int.tmod_eq_emod_of_nonneg]
          rw [Int.emod_eq_of_lt (a := 240 + r / 262144) (by omega) (by omega), Int.emod_eq_of_lt (a := 128 + r / 4096 % 64) (by omega) (by omega), Int.emod_eq_of_lt (a := 128 + r / 64 % 64) (by omega) (by omega), Int.emod_eq_of_lt (a := 128 + r % 64) (by omega) (by omega)]
  · rw [if_neg h, if_neg h]
    simp

theorem ref_encode_loop : ∀ (n k : Nat) (x acc : List Int) (i : Nat), i ≤ x.length → x.length - i = n → n + 12 ≤ k → acc.length ≤ 4 * i → x.length ≤ 100000000 →
    amanuensisref01_Encode.l0 k x acc (i : Int) = some (encL (x.drop i) (i : Int) acc) := by
  intro n
  induction n with
  | zero =>
    intro k x acc i h1 h2 h3 h4 hl
    obtain ⟨k, rfl⟩ : ∃ m, k = m + 1 := ⟨k - 1, by omega⟩
    rw [amanuensisref01_Encode.l0, if_neg (by omega), List.drop_eq_nil_of_le (by omega), encL]
  | succ n ih =>
    intro k x acc i h1 h2 h3 h4 hl
    obtain ⟨k, rfl⟩ : ∃ m, k = m + 1 := ⟨k - 1, by omega⟩
    have hi : i < x.length := by omega
    have hr : rd x (i : Int) = x[i] := by unfold rd; simp [hi]
    rw [amanuensisref01_Encode.l0, if_pos (by omega), if_pos (by omega), hr, ref_scalar_is, List.drop_eq_getElem_cons hi, encL]
    simp only [Option.bind_some, decide_eq_true_eq]
    by_cases hs : scal x[i]
    · rw [if_pos hs, if_pos hs, ref_one_is k (by omega)]
      simp only [Option.bind_some]
      have el := enc_length x[i]
      rw [if_pos (by omega), w64_in (by omega) (by omega)]
      have := ih k x (acc ++ enc x[i]) (i + 1) (by omega) (by omega) (by omega) (by simp only [List.length_append]; omega) hl
      rw [Int.natCast_add] at this
      exact this
    · rw [if_neg hs, if_neg hs]
theorem ref_encode_is (k : Nat) (x : List Int) (hk : x.length + 12 ≤ k) (hl : x.length ≤ 100000000) : amanuensisref01_Encode.f k x = some (encL x 0 []) := by
  unfold amanuensisref01_Encode.f
  exact ref_encode_loop x.length k x [] 0 (by omega) (by omega) hk (by simp) hl


/-- What is cut off begins nothing. -/
theorem dec1_cut (r : Int) (hs : scal r) (n : Nat) (h1 : 1 ≤ n) (h2 : (n : Int) < len r) : (dec1 ((enc r).take n)).2 = 0 := by
  have hr := scal_range hs
  rcases len_cases r with h | h | h | h | h
  · exact absurd hs h.1
  · omega
  · obtain ⟨_, ha, hb, hl⟩ := h
    obtain ⟨_, e⟩ := enc_2 ⟨ha, hb⟩
    obtain rfl : n = 1 := by omega
    rw [e]
    simp only [List.take_succ_cons, List.take_zero]
    rw [dec1_cons]
    repeat' split
    all_goals first | rfl | omega | simp_all
  · obtain ⟨_, ha, hb, hl⟩ := h
    obtain ⟨_, e⟩ := enc_3 ⟨ha, hb⟩ hs
    rw [e]
    rcases (by omega : n = 1 ∨ n = 2) with rfl | rfl
    · simp only [List.take_succ_cons, List.take_zero]
      rw [dec1_cons]
      repeat' split
      all_goals first | rfl | omega | simp_all
    · simp only [List.take_succ_cons, List.take_zero]
      rw [dec1_cons]
      repeat' split
      all_goals first | rfl | omega | simp_all
  · obtain ⟨_, ha, hb, hl⟩ := h
    obtain ⟨_, e⟩ := enc_4 ⟨ha, hb⟩
    rw [e]
    rcases (by omega : n = 1 ∨ n = 2 ∨ n = 3) with rfl | rfl | rfl
    all_goals
      simp only [List.take_succ_cons, List.take_zero]
      rw [dec1_cons]
      repeat' split
      all_goals first | rfl | omega | simp_all
theorem bytes_append {a b : List Int} (ha : bytes a) (hb : bytes b) : bytes (a ++ b) := fun x hx => (List.mem_append.mp hx).elim (ha x) (hb x)
theorem bytes_take {l : List Int} (h : bytes l) (n : Nat) : bytes (l.take n) := fun x hx => h x (List.mem_of_mem_take hx)

theorem j3_is (c : Int) (k : Nat) (a b : List Int) (ha : ∀ r ∈ a, scal r) (hb : ∀ r ∈ b, scal r) (la : a.length ≤ 300) (lb : b.length ≤ 300) (hk : 3000 ≤ k) (hc : 0 ≤ c ∧ c ≤ 255) (x : Int) (t : List Int) (hbt : b = x :: t) (h1 : len x ≠ 1) :
    amanuensislaw01_UtfJoins.j3 c (k + 1) b (flat a) (flat b) false = some true := by
  have hx : scal x := hb x (by rw [hbt]; simp)
  have hl := len_range x
  have hp := len_pos hx
  have fa := flat_length a
  have fb := flat_length b
  rw [amanuensislaw01_UtfJoins.j3, if_neg (by simp), if_pos (by rw [hbt]; simp), show rd b 0 = x by rw [hbt]; rfl, ref_len_is k (by omega), Option.bind_some, w64_in (n := len x - 1) (by omega) (by omega), if_neg (by omega)]
  have hw : wrap64 c = c := w64_in (by omega) (by omega)
  obtain ⟨n, hn, hn1, hn2⟩ : ∃ n : Nat, wrap64 (1 + Int.tmod (wrap64 c) (len x - 1)) = (n : Int) ∧ 1 ≤ n ∧ (n : Int) < len x := by
    rw [hw, Int.tmod_eq_emod_of_nonneg hc.1]
    have e0 := Int.emod_nonneg c (show len x - 1 ≠ 0 by omega)
    have e1 := Int.emod_lt_of_pos c (show 0 < len x - 1 by omega)
    rw [w64_in (by omega) (by omega)]
    exact ⟨(1 + c % (len x - 1)).toNat, by omega, by omega, by omega⟩
  have hfl : flat b = enc x ++ flat t := by rw [hbt]; rfl
  have el := enc_len x
  have hlen : (n : Int) ≤ ((flat b).length : Int) := by rw [hfl, List.length_append]; omega
  have htake : (flat b).take n = (enc x).take n := by rw [hfl, List.take_append_of_le_length (by omega)]
  rw [hn, if_pos (by omega), if_pos hlen, Option.bind_some, if_pos (by rw [List.length_nil]; omega), Option.bind_some, if_pos (by simp only [List.nil_append, Int.toNat_natCast, List.length_take]; omega), List.nil_append, Int.toNat_natCast, htake]
  have tl : ((enc x).take n).length = n := by rw [List.length_take]; omega
  have hal : (flat a ++ (enc x).take n).length = (flat a).length + ((enc x).take n).length := List.length_append
  rw [decode_is k _ (by omega) (bytes_append (flat_bytes a) (bytes_take (enc_bytes x) n)) (by omega)]
  have hge := flat_ge a ha
  obtain ⟨m, hm⟩ : ∃ m, (flat a ++ (enc x).take n).length + 1 = (m + 1) + a.length := ⟨(flat a ++ (enc x).take n).length - a.length, by omega⟩
  rw [hm, decL_flat a (m + 1) ((enc x).take n) 0 [] ha, decL]
  have hne : (enc x).take n ≠ [] := by intro h0; rw [h0] at tl; simp at tl; omega
  rw [if_neg hne, dec1_cut x hx n hn1 hn2, if_pos rfl]
  simp

theorem UtfJoins : amanuensislaw01_UtfJoins.Pure := by
  intro a b c _ _ _ _ _ _ hc
  have hc' := u8_wf hc
  refine ⟨3000 + 1 + 1 + 1 + 1, ?_⟩
  unfold amanuensislaw01_UtfJoins.f
  have big : amanuensislaw01_UtfJoins.j0 c (3000 + 1 + 1 + 1 + 1) a b true = some true := by
    rw [amanuensislaw01_UtfJoins.j0, if_pos rfl, answers_is _ (by omega)]
    rfl
  by_cases h1 : (a.length : Int) > 300
  · rw [if_pos h1]
    exact big
  rw [if_neg h1]
  by_cases h2 : (b.length : Int) > 300
  · rw [decide_eq_true h2]
    exact big
  rw [decide_eq_false h2, amanuensislaw01_UtfJoins.j0, if_neg (by simp), ref_encode_is _ a (by omega) (by omega), ref_encode_is _ b (by omega) (by omega), Option.bind_some, Option.bind_some]
  have none : ∀ x y : List Int, amanuensislaw01_UtfJoins.j1 c (3000 + 1 + 1 + 1) a b x y true = some true := by
    intro x y
    rw [amanuensislaw01_UtfJoins.j1, if_pos rfl, answers_is _ (by omega)]
    rfl
  rcases encL_cases a 0 [] with ⟨ha, ea⟩ | ⟨ha, q, ea⟩
  · rw [ea]
    simp only [if_true, List.nil_append]
    rcases encL_cases b 0 [] with ⟨hb, eb⟩ | ⟨hb, q, eb⟩
    · rw [eb]
      simp only [bne_self_eq_false, List.nil_append]
      have fa := flat_length a
      have fb := flat_length b
      have hfl : flat a ++ flat b = flat (a ++ b) := (flat_append a b).symm
      have hab : ∀ r ∈ a ++ b, scal r := fun r hr => (List.mem_append.mp hr).elim (ha r) (hb r)
      have hlab : (a ++ b).length = a.length + b.length := List.length_append
      have flab : (flat (a ++ b)).length = (flat a).length + (flat b).length := by rw [← hfl, List.length_append]
      rw [amanuensislaw01_UtfJoins.j1, if_neg (by simp), Option.bind_some, if_pos (by rw [List.length_nil]; omega), Option.bind_some, if_pos (by simp only [List.nil_append]; omega), List.nil_append, hfl,
        decode_is _ _ (by omega) (flat_bytes _) (by omega), decL_all (a ++ b) hab _ (by have := flat_ge (a ++ b) hab; omega), Option.bind_some, answers_is _ (by omega), Option.bind_some]
      simp only [if_true, Option.bind_some, List.nil_append]
      rw [if_pos (by rw [List.length_nil]; omega), if_pos (by omega), runes_same _ _ (by omega) (by omega), Option.bind_some, Bool.not_true, amanuensislaw01_UtfJoins.j2, if_neg (by simp)]
      cases b with
      | nil => rw [if_pos (by simp), amanuensislaw01_UtfJoins.j3, if_pos rfl]
      | cons x t =>
        rw [if_neg (by simp only [List.length_cons]; omega), if_pos (by simp only [List.length_cons]; omega), show rd (x :: t) 0 = x from rfl, ref_len_is _ (by omega), Option.bind_some]
        by_cases hl : len x = 1
        · rw [hl, beq_self_eq_true, amanuensislaw01_UtfJoins.j3, if_pos rfl]
        · rw [show (len x == 1) = false by simp [hl]]
          exact j3_is c 3000 a (x :: t) ha hb (by omega) (by omega) (by omega) hc' x t rfl hl
    · rw [eb]
      exact none _ _
  · rw [ea]
    rw [if_neg (by simp)]
    exact none _ _
end Go.Proofs.Ytmebmigolckeiaa.Pure
