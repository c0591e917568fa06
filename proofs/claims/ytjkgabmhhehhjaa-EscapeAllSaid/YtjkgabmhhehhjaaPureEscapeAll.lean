import Derived.Test.YtjkgabmhhehhjaaQEscapeAll
import Derived.Lib.SlicesS
namespace Go.Proofs.Ytjkgabmhhehhjaa.Pure
open Go.RowKit Go.Proofs.Ytjkgabmhhehhjaa.PEscapeReads Go.Proofs.Ytjkgabmhhehhjaa.PEscapeAll Go.Proofs.YtjkgabmhhehhjaaW.PrintWords Go.Proofs.YtjkgabmhhehhjaaW.PrintLast Go.Proofs.YtjkgabmhhehhjaaW.PrintMore
set_option maxRecDepth 100000
set_option linter.unusedSimpArgs false
set_option linter.unusedVariables false

def pats : List (List Int × Int × Int) :=
  [([27,40,66],0,1),([27,44,66],0,1),([27,41,66],1,1),([27,45,66],1,1),
   ([27,40,33,69],0,2),([27,44,33,69],0,2),([27,41,33,69],1,2),([27,45,33,69],1,2),
   ([27,40,83],0,3),([27,44,83],0,3),([27,41,83],1,3),([27,45,83],1,3),
   ([27,40,50],0,4),([27,44,50],0,4),([27,41,50],1,4),([27,45,50],1,4),
   ([27,40,51],0,5),([27,44,51],0,5),([27,41,51],1,5),([27,45,51],1,5),
   ([27,40,52],0,6),([27,44,52],0,6),([27,41,52],1,6),([27,45,52],1,6),
   ([27,40,78],0,7),([27,44,78],0,7),([27,41,78],1,7),([27,45,78],1,7),
   ([27,40,81],0,8),([27,44,81],0,8),([27,41,81],1,8),([27,45,81],1,8),
   ([27,36,49],0,9),([27,36,44,49],0,9),([27,36,41,49],1,9),([27,36,45,49],1,9),
   ([27,98],0,10),([27,112],0,11),([27,103],0,12),([27,115],0,1)]

def mk (p : List Int × Int × Int) : S38 := ⟨strOfNums p.1, p.2.1, p.2.2⟩

theorem escapes20 : amanuensisref08_Escapes.f 20 = some (pats.map mk) := by kernel_rfl

def find : List (List Int × Int × Int) → List Int → Int → Int → Int → Int × Int × Int × Int × Int
  | [], _, at_, _, _ => (0, 0, 0, 5, at_)
  | (p, g, s) :: t, R, at_, s0, s1 => if R.take p.length = p then (if g = 0 then (s, s1, (p.length : Int), 0, 0) else (s0, s, (p.length : Int), 0, 0)) else find t R at_ s0 s1

theorem find_cons (p : List Int × Int × Int) (t : List (List Int × Int × Int)) (R : List Int) (at_ s0 s1 : Int) : find (p :: t) R at_ s0 s1 = if R.take p.1.length = p.1 then (if p.2.1 = 0 then (p.2.2, s1, (p.1.length : Int), 0, 0) else (s0, p.2.2, (p.1.length : Int), 0, 0)) else find t R at_ s0 s1 := rfl

/-- the pair that escape.one reads out of the bytes after the region's own byte -/
def one : List Int → Int × Int
  | [] => (0, 0)
  | a :: t => if a = 33 ∧ t.head? = some 69 then (2, 2) else if a = 66 then (1,1) else if a = 83 then (3,1) else if a = 50 then (4,1) else if a = 51 then (5,1) else if a = 52 then (6,1) else if a = 78 then (7,1) else if a = 81 then (8,1) else (0,0)

theorem one_loop (k : Nat) (a : Int) (t : List Int) : escape_one.l0 (k + 9) (a :: t) 1 = some (if a = 66 then (1,1) else if a = 83 then (3,1) else if a = 50 then (4,1) else if a = 51 then (5,1) else if a = 52 then (6,1) else if a = 78 then (7,1) else if a = 81 then (8,1) else (0,0)) := by
  have hp : (0 : Int) < ((a :: t).length : Int) := by simp [List.length_cons]
  have hr : rd (a :: t) 0 = a := rfl
  have e1 : sets_Final.f 1 = some (66, true) := by kernel_rfl
  have e2 : sets_Final.f 2 = some (69, true) := by kernel_rfl
  have e3 : sets_Final.f 3 = some (83, true) := by kernel_rfl
  have e4 : sets_Final.f 4 = some (50, true) := by kernel_rfl
  have e5 : sets_Final.f 5 = some (51, true) := by kernel_rfl
  have e6 : sets_Final.f 6 = some (52, true) := by kernel_rfl
  have e7 : sets_Final.f 7 = some (78, true) := by kernel_rfl
  have e8 : sets_Final.f 8 = some (81, true) := by kernel_rfl
  have w1 : wrap64 (1+1) = 2 := by kernel_rfl
  have w2 : wrap64 (2+1) = 3 := by kernel_rfl
  have w3 : wrap64 (3+1) = 4 := by kernel_rfl
  have w4 : wrap64 (4+1) = 5 := by kernel_rfl
  have w5 : wrap64 (5+1) = 6 := by kernel_rfl
  have w6 : wrap64 (6+1) = 7 := by kernel_rfl
  have w7 : wrap64 (7+1) = 8 := by kernel_rfl
  have w8 : wrap64 (8+1) = 9 := by kernel_rfl
  simp only [escape_one.l0, hp, hr, if_true, e1,e2,e3,e4,e5,e6,e7,e8,w1,w2,w3,w4,w5,w6,w7,w8,Option.bind_some]
  simp (config := { decide := true }) only [if_true, if_false]
  repeat' (first | split | rfl)
  all_goals simp_all

theorem w64_in {n : Int} (h0 : -9223372036854775808 ≤ n) (h1 : n < 9223372036854775808) : wrap64 n = n := by
  unfold wrap64; omega

theorem one_f (k : Nat) (hk : 11 ≤ k) (R : List Int) : escape_one.f k R = some (one R) := by
  obtain ⟨k, rfl⟩ : ∃ j, k = j + 11 := ⟨k - 11, by omega⟩
  match R with
  | [] => simp [escape_one.f, escape_one.j0, one]
  | [a] =>
    have := one_loop (k + 1) a []
    simp [escape_one.f, escape_one.j0, one, this]
  | a :: b :: t =>
    have h1 := one_loop (k + 1) a (b :: t)
    have hp : (0 : Int) < ((a :: b :: t).length : Int) := by simp [List.length_cons]; omega
    have hq : ((a :: b :: t).length : Int) > 1 := by simp [List.length_cons]; omega
    have hr : rd (a :: b :: t) 0 = a := rfl
    have hs : rd (a :: b :: t) 1 = b := rfl
    simp only [escape_one.f, escape_one.j0, hp, hq, hr, hs, if_true, one, List.head?_cons, Option.some.injEq, h1]
    by_cases ha : a = 33
    · by_cases hb : b = 69
      · simp [ha, hb]
      · simp [ha, hb]
    · simp [ha]

/-- what escape.east reads -/
def east : List Int → Int × Int
  | [] => (0, 0)
  | a :: t => if a = 49 then (0, 1) else if a = 44 ∧ t.head? = some 49 then (0, 2) else if (a = 41 ∨ a = 45) ∧ t.head? = some 49 then (1, 2) else (0, 0)

theorem east_f (k : Nat) (hk : 5 ≤ k) (R : List Int) : escape_east.f k R = some (east R) := by
  obtain ⟨k, rfl⟩ : ∃ j, k = j + 5 := ⟨k - 5, by omega⟩
  have e9 : sets_Final.f 9 = some (49, true) := by kernel_rfl
  match R with
  | [] => simp [escape_east.f, escape_east.j0, escape_east.j1, east, e9]
  | [a] =>
    have hr : rd [a] 0 = a := rfl
    by_cases ha : a = 49
    · subst ha; simp [escape_east.f, escape_east.j0, escape_east.j1, east, e9, hr]
    · simp [escape_east.f, escape_east.j0, escape_east.j1, east, e9, hr, ha]
  | a :: b :: t =>
    have hp : (0 : Int) < ((a :: b :: t).length : Int) := by simp [List.length_cons]; omega
    have hq : ((a :: b :: t).length : Int) > 1 := by simp [List.length_cons]; omega
    have hq' : 1 < ((a :: b :: t).length : Int) := hq
    have hr : rd (a :: b :: t) 0 = a := rfl
    have hs : rd (a :: b :: t) 1 = b := rfl
    simp only [escape_east.f, escape_east.j0, escape_east.j1, hp, hq, hr, hs, if_true, east, e9, List.head?_cons, Option.some.injEq, Option.bind_some, gt_iff_lt]
    by_cases h1 : a = 49
    · simp [h1]
    · by_cases h2 : a = 44
      · by_cases hb : b = 49
        · simp [h2, hb]
        · simp [h2, hb]
      · by_cases h3 : a = 41
        · by_cases hb : b = 49
          · simp [h3, hb]
          · simp [h3, hb]
        · by_cases h4 : a = 45
          · by_cases hb : b = 49
            · simp [h4, hb]
            · simp [h4, hb]
          · simp [h1, h2, h3, h4]

def small (a : Int) : Int := if a = 115 then 1 else if a = 98 then 10 else if a = 112 then 11 else if a = 103 then 12 else 0

theorem small_f (k : Nat) (hk : 5 ≤ k) (a : Int) : escape_small.f k a = some (small a) := by
  obtain ⟨k, rfl⟩ : ∃ j, k = j + 5 := ⟨k - 5, by omega⟩
  have e1 : sets_Final.f 10 = some (98, true) := by kernel_rfl
  have e2 : sets_Final.f 11 = some (112, true) := by kernel_rfl
  have e3 : sets_Final.f 12 = some (103, true) := by kernel_rfl
  have w1 : wrap64 (10+1) = 11 := by kernel_rfl
  have w2 : wrap64 (11+1) = 12 := by kernel_rfl
  have w3 : wrap64 (12+1) = 13 := by kernel_rfl
  simp only [escape_small.f, escape_small.l0, e1, e2, e3, w1, w2, w3, Option.bind_some, small]
  simp (config := { decide := true }) only [if_true, if_false]
  simp only [eq_comm (a := (98:Int)), eq_comm (a := (112:Int)), eq_comm (a := (103:Int))]
  repeat' (first | split | rfl)

/-- what escape.parse reads: the region, the set, the bytes taken -/
def parse : List Int → Int × Int × Int
  | [] => (0, 0, 0)
  | a :: t =>
    if a = 41 ∨ a = 45 then (1, (one t).1, if (one t).2 > 0 then (one t).2 + 1 else (one t).2)
    else if a = 40 ∨ a = 44 then (0, (one t).1, if (one t).2 > 0 then (one t).2 + 1 else (one t).2)
    else if a = 36 then ((east t).1, 9, if (east t).2 > 0 then (east t).2 + 1 else (east t).2)
    else (0, small a, if small a > 0 then 1 else 0)

theorem one_range (t : List Int) : 0 ≤ (one t).2 ∧ (one t).2 ≤ 2 := by
  cases t with
  | nil => simp [one]
  | cons a t => simp only [one]; repeat' split
                all_goals simp
theorem east_range (t : List Int) : 0 ≤ (east t).2 ∧ (east t).2 ≤ 2 := by
  cases t with
  | nil => simp [east]
  | cons a t => simp only [east]; repeat' split
                all_goals simp

theorem parse_f (k : Nat) (hk : 15 ≤ k) (R : List Int) : escape_parse.f k R = some (parse R) := by
  obtain ⟨k, rfl⟩ : ∃ j, k = j + 15 := ⟨k - 15, by omega⟩
  match R with
  | [] => simp [escape_parse.f, parse]
  | a :: t =>
    have hp : (0 : Int) < ((a :: t).length : Int) := by simp [List.length_cons]
    have hn : ((a :: t).length : Int) = 0 ↔ False := by simp [List.length_cons]; omega
    have h1 : 1 ≤ ((a :: t).length : Int) := hp
    have hr : rd (a :: t) 0 = a := rfl
    have hd : (a :: t).drop 1 = t := rfl
    have o1 := one_f (k + 14) (by omega) t
    have o2 := one_f (k + 13) (by omega) t
    have o3 := east_f (k + 13) (by omega) t
    have o4 := small_f (k + 13) (by omega) a
    have w1 : wrap64 ((one t).2 + 1) = (one t).2 + 1 := w64_in (by have := one_range t; omega) (by have := one_range t; omega)
    have w2 : wrap64 ((east t).2 + 1) = (east t).2 + 1 := w64_in (by have := east_range t; omega) (by have := east_range t; omega)
    simp only [escape_parse.f, hp, hn, hr, if_true, if_false, escape_parse.j0, escape_parse.j1, h1, hd, o1, o2, o3, o4, Option.bind_some, w1, w2, parse]
    by_cases c1 : a = 41
    · simp [c1]; split <;> rfl
    · by_cases c2 : a = 45
      · simp [c2]; split <;> rfl
      · by_cases c3 : a = 40
        · simp [c3]; split <;> rfl
        · by_cases c4 : a = 44
          · simp [c4]; split <;> rfl
          · by_cases c5 : a = 36
            · simp [c5]; split <;> rfl
            · simp [c1, c2, c3, c4, c5]; split <;> rfl

def out (r : Int × Int × Int) (at_ s0 s1 : Int) : Int × Int × Int × Int × Int :=
  if r.2.2 = 0 then (0, 0, 0, 5, at_) else if r.1 = 0 then (r.2.1, s1, r.2.2 + 1, 0, 0) else (s0, r.2.1, r.2.2 + 1, 0, 0)

theorem parse_range (R : List Int) : 0 ≤ (parse R).2.2 ∧ (parse R).2.2 ≤ 3 := by
  cases R with
  | nil => simp [parse]
  | cons a t =>
    have h1 := one_range t
    have h2 := east_range t
    simp only [parse]
    repeat' split
    all_goals simp only
    all_goals omega

theorem code_27 (l0 : List Int) (a : Nat) (hl : l0.length ≤ 1000) (ha : a < l0.length) (s0 s1 : Int) :
    escape_Next.j0 100 l0 a false s0 s1 = some (out (parse (l0.drop (a + 1))) a s0 s1) := by
  have hw : wrap64 ((a : Int) + 1) = (a : Int) + 1 := w64_in (by omega) (by omega)
  have c1 : (0 : Int) ≤ (a : Int) + 1 := by omega
  have c2 : (a : Int) + 1 ≤ (l0.length : Int) := by omega
  have ht : ((a : Int) + 1).toNat = a + 1 := by omega
  have hp := parse_f 99 (by omega) (l0.drop (a + 1))
  have hr := parse_range (l0.drop (a + 1))
  have hw2 : wrap64 ((parse (l0.drop (a + 1))).2.2 + 1) = (parse (l0.drop (a + 1))).2.2 + 1 := w64_in (by omega) (by omega)
  rw [escape_Next.j0]
  simp only [hw, c1, c2, ht, hp, hw2, if_true, if_false, Option.bind_some, Bool.false_eq_true, out]
  repeat' split
  all_goals rfl


theorem u8_wf {a : Int} (h : (Lit.int .u8 a).wf = true) : 0 ≤ a ∧ a < 256 := by
  have h' : IntKind.u8.min ≤ a ∧ a ≤ IntKind.u8.max := by simpa [Lit.wf] using h
  have e1 : IntKind.u8.min = 0 := by decide
  have e2 : IntKind.u8.max = 255 := by decide
  omega
theorem escapes100 : amanuensisref08_Escapes.f 100 = some (pats.map mk) := by kernel_rfl
theorem answers100 : amanuensislaw14_answers.f 100 = some true := by kernel_rfl

theorem code_at (l : List Int) (a : Nat) (hl : l.length ≤ 1000) (R : List Int) (hd : l.drop a = 27 :: R) (s0 s1 : Int) :
    escape_Next.f 100 l a s0 s1 = some (out (parse R) a s0 s1) := by
  have ha : a < l.length := by
    have := congrArg List.length hd
    simp only [List.length_drop, List.length_cons] at this
    omega
  have hR : l.drop (a + 1) = R ∧ l[a] = 27 := by
    rw [List.drop_eq_getElem_cons ha] at hd
    injection hd with h1 h2
    exact ⟨h2, h1⟩
  have hrd : rd l (a : Int) = 27 := by
    have : (a : Int).toNat = a := by omega
    simp only [rd, this, List.getD_eq_getElem?_getD, List.getElem?_eq_getElem ha, hR.2, Option.getD_some]
  have h1 : ¬ ((a : Int) < 0) := by omega
  have h2 : ¬ ((a : Int) ≥ (l.length : Int)) := by omega
  have h3 : 0 ≤ (a : Int) := by omega
  have h4 : (a : Int) < (l.length : Int) := by omega
  have hc := code_27 l a hl ha s0 s1
  unfold escape_Next.f
  rw [if_neg h1, if_neg h2, if_pos h3, if_pos h4, hrd]
  rw [hR.1] at hc
  exact hc

theorem parse_esc : ∀ p ∈ pats, ∀ l2 : List Int, parse (p.1.drop 1 ++ l2) = (p.2.1, p.2.2, (p.1.length : Int) - 1) := by
  simp [pats, parse, one, east, small]
theorem pats_facts : ∀ p ∈ pats, bytesOf (mk p).f0 = p.1 ∧ p.1.take 1 = [27] ∧ 2 ≤ p.1.length ∧ p.1.length ≤ 4 ∧ (mk p).f0.size = p.1.length ∧ (p.2.1 = 0 ∨ p.2.1 = 1) := by decide +kernel

theorem EscapeAll : amanuensislaw14_EscapeAll.Pure := by
  intro a0 l1 l2 a3 b3
  intros
  rename_i w0 _ _ _ _ _ _ _ _
  have u0 := u8_wf w0
  refine ⟨101, ?_⟩
  have hj : ∀ b : Bool, b = true → amanuensislaw14_EscapeAll.j0 101 a0 l1 l2 b a3 b3 = some true := by
    rintro _ rfl
    rw [amanuensislaw14_EscapeAll.j0]
    simp only [if_true, answers100, Option.bind_some]
  unfold amanuensislaw14_EscapeAll.f
  by_cases h1 : (l1.length : Int) > 100
  · rw [if_pos h1]; exact hj _ rfl
  rw [if_neg h1]
  by_cases h2 : (l2.length : Int) > 100
  · exact hj _ (decide_eq_true h2)
  rw [decide_eq_false h2, amanuensislaw14_EscapeAll.j0]
  have n1 : l1.length ≤ 100 := by omega
  have n2 : l2.length ≤ 100 := by omega
  have hlen : ((pats.map mk).length : Int) = 40 := by simp [pats]
  have hlen' : pats.length = 40 := by simp [pats]
  obtain ⟨i, hi, hji⟩ : ∃ i : Nat, i < 40 ∧ Int.tmod a0 40 = (i : Int) := ⟨(a0 % 40).toNat, by omega, by rw [Int.tmod_eq_emod_of_nonneg u0.1]; omega⟩
  have c2 : (0 : Int) ≤ (i : Int) := by omega
  have c3 : (i : Int) < 40 := by omega
  have hw0 : wrap64 a0 = a0 := w64_in (by omega) (by omega)
  obtain ⟨p, hp⟩ : ∃ p, pats[i]? = some p := ⟨pats[i], List.getElem?_eq_getElem (by omega)⟩
  have hmem := List.mem_of_getElem? hp
  have hrd : rd_T38 (pats.map mk) (i : Int) = mk p := by simp [rd_T38, List.getD_eq_getElem?_getD, hp]
  obtain ⟨f1, f2, f3, f4, f5, f6⟩ := pats_facts p hmem
  have c1 : ¬ ((40 : Int) = 0) := by decide
  have e1 : (mk p).f1 = p.2.1 := rfl
  have e2 : (mk p).f2 = p.2.2 := rfl
  simp only [Bool.false_eq_true, if_false, escapes100, Option.bind_some, hlen, hw0, hji, c1, c2, c3, if_true, hrd, f1, f5, e1, e2, List.nil_append, List.length_nil, List.length_append, answers100]
  have d1 : 0 + l1.length < 140737488355328 := by omega
  have d2 : l1.length + p.1.length < 140737488355328 := by omega
  have d3 : l1.length + p.1.length + l2.length < 140737488355328 := by omega
  have hdrop : (l1 ++ p.1 ++ l2).drop l1.length = 27 :: (p.1.drop 1 ++ l2) := by
    rw [List.append_assoc, List.drop_left]
    have : p.1 = p.1.take 1 ++ p.1.drop 1 := (List.take_append_drop 1 p.1).symm
    rw [f2] at this
    conv => lhs; rw [this]
    rfl
  have hN := code_at (l1 ++ p.1 ++ l2) l1.length (by simp only [List.length_append]; omega) _ hdrop a3 b3
  rw [parse_esc p hmem l2] at hN
  have k1 : ¬ ((p.1.length : Int) - 1 = 0) := by omega
  have k2 : (p.1.length : Int) - 1 + 1 = (p.1.length : Int) := by omega
  simp only [out, k1, if_false, k2] at hN
  simp only [d1, d2, d3, if_true, hN, Option.bind_some]
  rcases f6 with h0 | h0
  · simp [h0]; omega
  · simp [h0]; omega
end Go.Proofs.Ytjkgabmhhehhjaa.Pure
