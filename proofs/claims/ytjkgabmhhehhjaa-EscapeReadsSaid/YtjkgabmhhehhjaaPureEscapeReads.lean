import Derived.Test.YtjkgabmhhehhjaaQEscapeReads
import Derived.Lib.SlicesS
namespace Go.Proofs.Ytjkgabmhhehhjaa.Pure
open Go.RowKit Go.Proofs.Ytjkgabmhhehhjaa.PEscapeReads Go.Proofs.YtjkgabmhhehhjaaW.PrintWords Go.Proofs.YtjkgabmhhehhjaaW.PrintLast Go.Proofs.YtjkgabmhhehhjaaW.PrintMore
set_option maxRecDepth 100000
set_option linter.unusedSimpArgs false
set_option linter.unusedVariables false

def pats : List (List Int × Int × Int) :=
  [([27,40,66],0,1),([27,44,66],0,1),([27,41,66],1,1),([27,45,66],1,1),
   ([27,40,33,69],0,2),([27,44,33,69],0,2),([27,41,33,69],1,2),([27,45,33,69],1,2),
   ([27,40,83],0,3),([27,44,83],0,3),([27,41,83],1,3),([27,45,83],1,3),
   ([27,40,50],0,4),([27,44,50],0,4),([27,41,50],1,4),([27,45,50],1,4),
   ([27,40,51],0,5),([27,44,51],0,5),([27,41,51],1,5),([27,45,51],1,5),
   ([27,40,52],0,6),([27,44,52],0,6),([27,41,52],1,6),([27,45,52],1,6),
   ([27,40,78],0,7),([27,44,78],0,7),([27,41,78],1,7),([27,45,78],1,7),
   ([27,40,81],0,8),([27,44,81],0,8),([27,41,81],1,8),([27,45,81],1,8),
   ([27,36,49],0,9),([27,36,44,49],0,9),([27,36,41,49],1,9),([27,36,45,49],1,9),
   ([27,98],0,10),([27,112],0,11),([27,103],0,12),([27,115],0,1)]

def mk (p : List Int × Int × Int) : S38 := ⟨strOfNums p.1, p.2.1, p.2.2⟩

theorem escapes20 : amanuensisref08_Escapes.f 20 = some (pats.map mk) := by kernel_rfl

def find : List (List Int × Int × Int) → List Int → Int → Int → Int → Int × Int × Int × Int × Int
  | [], _, at_, _, _ => (0, 0, 0, 5, at_)
  | (p, g, s) :: t, R, at_, s0, s1 => if R.take p.length = p then (if g = 0 then (s, s1, (p.length : Int), 0, 0) else (s0, s, (p.length : Int), 0, 0)) else find t R at_ s0 s1

theorem find_cons (p : List Int × Int × Int) (t : List (List Int × Int × Int)) (R : List Int) (at_ s0 s1 : Int) : find (p :: t) R at_ s0 s1 = if R.take p.1.length = p.1 then (if p.2.1 = 0 then (p.2.2, s1, (p.1.length : Int), 0, 0) else (s0, p.2.2, (p.1.length : Int), 0, 0)) else find t R at_ s0 s1 := rfl

/-- the pair that escape.one reads out of the bytes after the region's own byte -/
def one : List Int → Int × Int
  | [] => (0, 0)
  | a :: t => if a = 33 ∧ t.head? = some 69 then (2, 2) else if a = 66 then (1,1) else if a = 83 then (3,1) else if a = 50 then (4,1) else if a = 51 then (5,1) else if a = 52 then (6,1) else if a = 78 then (7,1) else if a = 81 then (8,1) else (0,0)

theorem one_loop (k : Nat) (a : Int) (t : List Int) : escape_one.l0 (k + 9) (a :: t) 1 = some (if a = 66 then (1,1) else if a = 83 then (3,1) else if a = 50 then (4,1) else if a = 51 then (5,1) else if a = 52 then (6,1) else if a = 78 then (7,1) else if a = 81 then (8,1) else (0,0)) := by
  have hp : (0 : Int) < ((a :: t).length : Int) := by simp [List.length_cons]
  have hr : rd (a :: t) 0 = a := rfl
  have e1 : sets_Final.f 1 = some (66, true) := by kernel_rfl
  have e2 : sets_Final.f 2 = some (69, true) := by kernel_rfl
  have e3 : sets_Final.f 3 = some (83, true) := by kernel_rfl
  have e4 : sets_Final.f 4 = some (50, true) := by kernel_rfl
  have e5 : sets_Final.f 5 = some (51, true) := by kernel_rfl
  have e6 : sets_Final.f 6 = some (52, true) := by kernel_rfl
  have e7 : sets_Final.f 7 = some (78, true) := by kernel_rfl
  have e8 : sets_Final.f 8 = some (81, true) := by kernel_rfl
  have w1 : wrap64 (1+1) = 2 := by kernel_rfl
  have w2 : wrap64 (2+1) = 3 := by kernel_rfl
  have w3 : wrap64 (3+1) = 4 := by kernel_rfl
  have w4 : wrap64 (4+1) = 5 := by kernel_rfl
  have w5 : wrap64 (5+1) = 6 := by kernel_rfl
  have w6 : wrap64 (6+1) = 7 := by kernel_rfl
  have w7 : wrap64 (7+1) = 8 := by kernel_rfl
  have w8 : wrap64 (8+1) = 9 := by kernel_rfl
  simp only [escape_one.l0, hp, hr, if_true, e1,e2,e3,e4,e5,e6,e7,e8,w1,w2,w3,w4,w5,w6,w7,w8,Option.bind_some]
  simp (config := { decide := true }) only [if_true, if_false]
  repeat' (first | split | rfl)
  all_goals simp_all

theorem u8_wf {a : Int} (h : (Lit.int .u8 a).wf = true) : 0 ≤ a ∧ a < 256 := by
  have h' : IntKind.u8.min ≤ a ∧ a ≤ IntKind.u8.max := by simpa [Lit.wf] using h
  have e1 : IntKind.u8.min = 0 := by decide
  have e2 : IntKind.u8.max = 255 := by decide
  omega

theorem w64_in {n : Int} (h0 : -9223372036854775808 ≤ n) (h1 : n < 9223372036854775808) : wrap64 n = n := by
  unfold wrap64; omega

theorem one_f (k : Nat) (hk : 11 ≤ k) (R : List Int) : escape_one.f k R = some (one R) := by
  obtain ⟨k, rfl⟩ : ∃ j, k = j + 11 := ⟨k - 11, by omega⟩
  match R with
  | [] => simp [escape_one.f, escape_one.j0, one]
  | [a] =>
    have := one_loop (k + 1) a []
    simp [escape_one.f, escape_one.j0, one, this]
  | a :: b :: t =>
    have h1 := one_loop (k + 1) a (b :: t)
    have hp : (0 : Int) < ((a :: b :: t).length : Int) := by simp [List.length_cons]; omega
    have hq : ((a :: b :: t).length : Int) > 1 := by simp [List.length_cons]; omega
    have hr : rd (a :: b :: t) 0 = a := rfl
    have hs : rd (a :: b :: t) 1 = b := rfl
    simp only [escape_one.f, escape_one.j0, hp, hq, hr, hs, if_true, one, List.head?_cons, Option.some.injEq, h1]
    by_cases ha : a = 33
    · by_cases hb : b = 69
      · simp [ha, hb]
      · simp [ha, hb]
    · simp [ha]

/-- what escape.east reads -/
def east : List Int → Int × Int
  | [] => (0, 0)
  | a :: t => if a = 49 then (0, 1) else if a = 44 ∧ t.head? = some 49 then (0, 2) else if (a = 41 ∨ a = 45) ∧ t.head? = some 49 then (1, 2) else (0, 0)

theorem east_f (k : Nat) (hk : 5 ≤ k) (R : List Int) : escape_east.f k R = some (east R) := by
  obtain ⟨k, rfl⟩ : ∃ j, k = j + 5 := ⟨k - 5, by omega⟩
  have e9 : sets_Final.f 9 = some (49, true) := by kernel_rfl
  match R with
  | [] => simp [escape_east.f, escape_east.j0, escape_east.j1, east, e9]
  | [a] =>
    have hr : rd [a] 0 = a := rfl
    by_cases ha : a = 49
    · subst ha; simp [escape_east.f, escape_east.j0, escape_east.j1, east, e9, hr]
    · simp [escape_east.f, escape_east.j0, escape_east.j1, east, e9, hr, ha]
  | a :: b :: t =>
    have hp : (0 : Int) < ((a :: b :: t).length : Int) := by simp [List.length_cons]; omega
    have hq : ((a :: b :: t).length : Int) > 1 := by simp [List.length_cons]; omega
    have hq' : 1 < ((a :: b :: t).length : Int) := hq
    have hr : rd (a :: b :: t) 0 = a := rfl
    have hs : rd (a :: b :: t) 1 = b := rfl
    simp only [escape_east.f, escape_east.j0, escape_east.j1, hp, hq, hr, hs, if_true, east, e9, List.head?_cons, Option.some.injEq, Option.bind_some, gt_iff_lt]
    by_cases h1 : a = 49
    · simp [h1]
    · by_cases h2 : a = 44
      · by_cases hb : b = 49
        · simp [h2, hb]
        · simp [h2, hb]
      · by_cases h3 : a = 41
        · by_cases hb : b = 49
          · simp [h3, hb]
          · simp [h3, hb]
        · by_cases h4 : a = 45
          · by_cases hb : b = 49
            · simp [h4, hb]
            · simp [h4, hb]
          · simp [h1, h2, h3, h4]

def small (a : Int) : Int := if a = 115 then 1 else if a = 98 then 10 else if a = 112 then 11 else if a = 103 then 12 else 0

theorem small_f (k : Nat) (hk : 5 ≤ k) (a : Int) : escape_small.f k a = some (small a) := by
  obtain ⟨k, rfl⟩ : ∃ j, k = j + 5 := ⟨k - 5, by omega⟩
  have e1 : sets_Final.f 10 = some (98, true) := by kernel_rfl
  have e2 : sets_Final.f 11 = some (112, true) := by kernel_rfl
  have e3 : sets_Final.f 12 = some (103, true) := by kernel_rfl
  have w1 : wrap64 (10+1) = 11 := by kernel_rfl
  have w2 : wrap64 (11+1) = 12 := by kernel_rfl
  have w3 : wrap64 (12+1) = 13 := by kernel_rfl
  simp only [escape_small.f, escape_small.l0, e1, e2, e3, w1, w2, w3, Option.bind_some, small]
  simp (config := { decide := true }) only [if_true, if_false]
  simp only [eq_comm (a := (98:Int)), eq_comm (a := (112:Int)), eq_comm (a := (103:Int))]
  repeat' (first | split | rfl)

/-- what escape.parse reads: the region, the set, the bytes taken -/
def parse : List Int → Int × Int × Int
  | [] => (0, 0, 0)
  | a :: t =>
    if a = 41 ∨ a = 45 then (1, (one t).1, if (one t).2 > 0 then (one t).2 + 1 else (one t).2)
    else if a = 40 ∨ a = 44 then (0, (one t).1, if (one t).2 > 0 then (one t).2 + 1 else (one t).2)
    else if a = 36 then ((east t).1, 9, if (east t).2 > 0 then (east t).2 + 1 else (east t).2)
    else (0, small a, if small a > 0 then 1 else 0)

theorem one_range (t : List Int) : 0 ≤ (one t).2 ∧ (one t).2 ≤ 2 := by
  cases t with
  | nil => simp [one]
  | cons a t => simp only [one]; repeat' split
                all_goals simp
theorem east_range (t : List Int) : 0 ≤ (east t).2 ∧ (east t).2 ≤ 2 := by
  cases t with
  | nil => simp [east]
  | cons a t => simp only [east]; repeat' split
                all_goals simp

theorem parse_f (k : Nat) (hk : 15 ≤ k) (R : List Int) : escape_parse.f k R = some (parse R) := by
  obtain ⟨k, rfl⟩ : ∃ j, k = j + 15 := ⟨k - 15, by omega⟩
  match R with
  | [] => simp [escape_parse.f, parse]
  | a :: t =>
    have hp : (0 : Int) < ((a :: t).length : Int) := by simp [List.length_cons]
    have hn : ((a :: t).length : Int) = 0 ↔ False := by simp [List.length_cons]; omega
    have h1 : 1 ≤ ((a :: t).length : Int) := hp
    have hr : rd (a :: t) 0 = a := rfl
    have hd : (a :: t).drop 1 = t := rfl
    have o1 := one_f (k + 14) (by omega) t
    have o2 := one_f (k + 13) (by omega) t
    have o3 := east_f (k + 13) (by omega) t
    have o4 := small_f (k + 13) (by omega) a
    have w1 : wrap64 ((one t).2 + 1) = (one t).2 + 1 := w64_in (by have := one_range t; omega) (by have := one_range t; omega)
    have w2 : wrap64 ((east t).2 + 1) = (east t).2 + 1 := w64_in (by have := east_range t; omega) (by have := east_range t; omega)
    simp only [escape_parse.f, hp, hn, hr, if_true, if_false, escape_parse.j0, escape_parse.j1, h1, hd, o1, o2, o3, o4, Option.bind_some, w1, w2, parse]
    by_cases c1 : a = 41
    · simp [c1]; split <;> rfl
    · by_cases c2 : a = 45
      · simp [c2]; split <;> rfl
      · by_cases c3 : a = 40
        · simp [c3]; split <;> rfl
        · by_cases c4 : a = 44
          · simp [c4]; split <;> rfl
          · by_cases c5 : a = 36
            · simp [c5]; split <;> rfl
            · simp [c1, c2, c3, c4, c5]; split <;> rfl

theorem bytes_inj : ∀ (x y : List Int), (∀ n ∈ x, 0 ≤ n ∧ n < 256) → (∀ n ∈ y, 0 ≤ n ∧ n < 256) → strOfNums x = strOfNums y → x = y := by
  intro x y hx hy h
  have h2 : x.map (fun n => UInt8.ofNat n.toNat) = y.map (fun n => UInt8.ofNat n.toNat) := by
    have := congrArg (fun b => b.data.toList) h
    simpa [strOfNums] using this
  clear h
  induction x generalizing y with
  | nil => cases y with
    | nil => rfl
    | cons => simp at h2
  | cons a x ih => cases y with
    | nil => simp at h2
    | cons b y =>
      simp only [List.map_cons, List.cons.injEq] at h2
      have ha := hx a (by simp)
      have hb := hy b (by simp)
      have h3 : a = b := by
        have := congrArg UInt8.toNat h2.1
        simp only [UInt8.toNat_ofNat'] at this
        omega
      rw [h3, ih y (fun n hn => hx n (by simp [hn])) (fun n hn => hy n (by simp [hn])) h2.2]

theorem mk_size (p : List Int × Int × Int) : (mk p).f0.size = p.1.length := by
  simp [mk, strOfNums, ByteArray.size]

theorem rd_map (P : List (List Int × Int × Int)) (i : Nat) (p) (h : P[i]? = some p) : rd_T38 (P.map mk) (i : Int) = mk p := by
  simp [rd_T38, List.getD_eq_getElem?_getD, h]

theorem next_loop (x0 : List Int) (a : Nat) (ha : a ≤ x0.length) (hl : x0.length ≤ 1000) (hb : ∀ n ∈ x0, 0 ≤ n ∧ n < 256) (P : List (List Int × Int × Int)) (hP : P.length ≤ 1000) (hP2 : ∀ p ∈ P, p.1.length ≤ 1000 ∧ ∀ n ∈ p.1, 0 ≤ n ∧ n < 256) (s0 s1 : Int) :
    ∀ (d i k : Nat), d = P.length - i → i ≤ P.length → 2 * d + 1 ≤ k → amanuensisref08_Next.l0 k x0 a (P.map mk) i s0 s1 = some (find (P.drop i) (x0.drop a) a s0 s1) := by
  intro d
  induction d with
  | zero =>
    intro i k hd hi hk
    obtain ⟨k, rfl⟩ : ∃ j, k = j + 1 := ⟨k - 1, by omega⟩
    have : i = P.length := by omega
    subst this
    simp [amanuensisref08_Next.l0, find]
  | succ d ih =>
    intro i k hd hi hk
    obtain ⟨k, rfl⟩ : ∃ j, k = j + 2 := ⟨k - 2, by omega⟩
    have hi2 : i < P.length := by omega
    obtain ⟨p, hp⟩ : ∃ p, P[i]? = some p := ⟨P[i], by simp [hi2]⟩
    have hmem : p ∈ P := List.mem_of_getElem? hp
    have hpl := hP2 p hmem
    have hdrop : P.drop i = p :: P.drop (i + 1) := by
      rw [List.drop_eq_getElem_cons hi2]
      have : P[i] = p := by simpa [hi2] using hp
      rw [this]
    have hrd := rd_map P i p hp
    have hsz := mk_size p
    have hlen : ((P.map mk).length : Int) = P.length := by simp
    have c1 : (i : Int) < (P.length : Int) := by omega
    have c2 : (0 : Int) ≤ (i : Int) := by omega
    have ihn := ih (i + 1) k (by omega) (by omega) (by omega)
    have c3 : (0 : Int) ≤ (a : Int) := by omega
    have c4 : (a : Int) ≤ (a : Int) + (p.1.length : Int) := by omega
    have ht : ((a : Int) + (p.1.length : Int)).toNat = a + p.1.length := by omega
    have ht2 : (a : Int).toNat = a := by omega
    have hdt : (x0.take (a + p.1.length)).drop a = (x0.drop a).take p.1.length := by
      rw [List.drop_take]; congr 1; omega
    have hlq : (x0.drop a).take p.1.length = p.1 → (a : Int) + (p.1.length : Int) ≤ (x0.length : Int) := by
      intro hm
      have := congrArg List.length hm
      simp only [List.length_take, List.length_drop] at this
      omega
    have w1 : wrap64 ((a : Int) + (p.1.length : Int)) = (a : Int) + (p.1.length : Int) := w64_in (by omega) (by omega)
    have w2a : wrap64 ((i : Int) + 1) = (i : Int) + 1 := w64_in (by omega) (by omega)
    have w2b : (i : Int) + 1 = ((i + 1 : Nat) : Int) := by omega
    have w2 : wrap64 ((i : Int) + 1) = ((i + 1 : Nat) : Int) := w2a.trans w2b
    clear w2a w2b
    rw [amanuensisref08_Next.l0]
    simp only [hlen, c1, c2, if_true, hrd, hsz, w1, c3, c4, ht, ht2, hdt, hdrop, find_cons]
    have hf0 : (mk p).f0 = strOfNums p.1 := rfl
    have hf1 : (mk p).f1 = p.2.1 := rfl
    have hf2 : (mk p).f2 = p.2.2 := rfl
    by_cases hm : (x0.drop a).take p.1.length = p.1
    · have hq := hlq hm
      have hbq : ((strOfNums p.1).toList == (strOfNums p.1).toList) = true := (Lib.bytes_beq_iff _ _).mpr rfl
      simp only [hq, if_true, hm, hf0, hbq]
      rw [amanuensisref08_Next.j2]
      simp only [hlen, c1, c2, if_true, hrd, hf1, hf2]
      split <;> rfl
    · simp only [hm, if_false]
      rw [← ihn]
      have hj : amanuensisref08_Next.j2 (k + 1) x0 a (P.map mk) i (p.1.length : Int) false s0 s1 = amanuensisref08_Next.l0 k x0 a (P.map mk) ((i + 1 : Nat) : Int) s0 s1 := by
        rw [amanuensisref08_Next.j2]
        simp [w2]
      by_cases hq : (a : Int) + (p.1.length : Int) ≤ (x0.length : Int)
      · have hbq : ((strOfNums ((x0.drop a).take p.1.length)).toList == (mk p).f0.toList) = false := by
          rw [hf0, Lib.bytes_beq_false_iff]
          intro he
          exact hm (bytes_inj _ _ (fun n hn => hb n (List.mem_of_mem_drop (List.mem_of_mem_take hn))) hpl.2 he)
        simp only [hq, if_true, hbq, hj]
      · simp only [hq, if_false, hj]

def out (r : Int × Int × Int) (at_ s0 s1 : Int) : Int × Int × Int × Int × Int :=
  if r.2.2 = 0 then (0, 0, 0, 5, at_) else if r.1 = 0 then (r.2.1, s1, r.2.2 + 1, 0, 0) else (s0, r.2.1, r.2.2 + 1, 0, 0)

theorem find_parse (R : List Int) (at_ s0 s1 : Int) : find pats (27 :: R) at_ s0 s1 = out (parse R) at_ s0 s1 := by
  match R with
  | [] => simp [find, pats, out, parse]
  | [a] =>
    by_cases ha98 : a = 98
    · subst ha98
      simp [find, pats, out, parse, one, east, small]
    by_cases ha112 : a = 112
    · subst ha112
      simp [find, pats, out, parse, one, east, small, ha98]
    by_cases ha103 : a = 103
    · subst ha103
      simp [find, pats, out, parse, one, east, small, ha98, ha112]
    by_cases ha115 : a = 115
    · subst ha115
      simp [find, pats, out, parse, one, east, small, ha98, ha112, ha103]
    by_cases ha41 : a = 41
    · subst ha41
      simp [find, pats, out, parse, one, east, small, ha98, ha112, ha103, ha115]
    by_cases ha45 : a = 45
    · subst ha45
      simp [find, pats, out, parse, one, east, small, ha98, ha112, ha103, ha115, ha41]
    by_cases ha40 : a = 40
    · subst ha40
      simp [find, pats, out, parse, one, east, small, ha98, ha112, ha103, ha115, ha41, ha45]
    by_cases ha44 : a = 44
    · subst ha44
      simp [find, pats, out, parse, one, east, small, ha98, ha112, ha103, ha115, ha41, ha45, ha40]
    by_cases ha36 : a = 36
    · subst ha36
      simp [find, pats, out, parse, one, east, small, ha98, ha112, ha103, ha115, ha41, ha45, ha40, ha44]
    simp [find, pats, out, parse, one, east, small, ha98, ha112, ha103, ha115, ha41, ha45, ha40, ha44, ha36]
  | [a, b] =>
    by_cases ha98 : a = 98
    · subst ha98
      simp [find, pats, out, parse, one, east, small]
    by_cases ha112 : a = 112
    · subst ha112
      simp [find, pats, out, parse, one, east, small, ha98]
    by_cases ha103 : a = 103
    · subst ha103
      simp [find, pats, out, parse, one, east, small, ha98, ha112]
    by_cases ha115 : a = 115
    · subst ha115
      simp [find, pats, out, parse, one, east, small, ha98, ha112, ha103]
    by_cases ha41 : a = 41
    · subst ha41
      by_cases hb33 : b = 33
      · subst hb33
        simp [find, pats, out, parse, one, east, small, ha98, ha112, ha103, ha115]
      by_cases hb66 : b = 66
      · subst hb66
        simp [find, pats, out, parse, one, east, small, ha98, ha112, ha103, ha115, hb33]
      by_cases hb83 : b = 83
      · subst hb83
        simp [find, pats, out, parse, one, east, small, ha98, ha112, ha103, ha115, hb33, hb66]
      by_cases hb50 : b = 50
      · subst hb50
        simp [find, pats, out, parse, one, east, small, ha98, ha112, ha103, ha115, hb33, hb66, hb83]
      by_cases hb51 : b = 51
      · subst hb51
        simp [find, pats, out, parse, one, east, small, ha98, ha112, ha103, ha115, hb33, hb66, hb83, hb50]
      by_cases hb52 : b = 52
      · subst hb52
        simp [find, pats, out, parse, one, east, small, ha98, ha112, ha103, ha115, hb33, hb66, hb83, hb50, hb51]
      by_cases hb78 : b = 78
      · subst hb78
        simp [find, pats, out, parse, one, east, small, ha98, ha112, ha103, ha115, hb33, hb66, hb83, hb50, hb51, hb52]
      by_cases hb81 : b = 81
      · subst hb81
        simp [find, pats, out, parse, one, east, small, ha98, ha112, ha103, ha115, hb33, hb66, hb83, hb50, hb51, hb52, hb78]
      simp [find, pats, out, parse, one, east, small, ha98, ha112, ha103, ha115, hb33, hb66, hb83, hb50, hb51, hb52, hb78, hb81]
    by_cases ha45 : a = 45
    · subst ha45
      by_cases hb33 : b = 33
      · subst hb33
        simp [find, pats, out, parse, one, east, small, ha98, ha112, ha103, ha115, ha41]
      by_cases hb66 : b = 66
      · subst hb66
        simp [find, pats, out, parse, one, east, small, ha98, ha112, ha103, ha115, ha41, hb33]
      by_cases hb83 : b = 83
      · subst hb83
        simp [find, pats, out, parse, one, east, small, ha98, ha112, ha103, ha115, ha41, hb33, hb66]
      by_cases hb50 : b = 50
      · subst hb50
        simp [find, pats, out, parse, one, east, small, ha98, ha112, ha103, ha115, ha41, hb33, hb66, hb83]
      by_cases hb51 : b = 51
      · subst hb51
        simp [find, pats, out, parse, one, east, small, ha98, ha112, ha103, ha115, ha41, hb33, hb66, hb83, hb50]
      by_cases hb52 : b = 52
      · subst hb52
        simp [find, pats, out, parse, one, east, small, ha98, ha112, ha103, ha115, ha41, hb33, hb66, hb83, hb50, hb51]
      by_cases hb78 : b = 78
      · subst hb78
        simp [find, pats, out, parse, one, east, small, ha98, ha112, ha103, ha115, ha41, hb33, hb66, hb83, hb50, hb51, hb52]
      by_cases hb81 : b = 81
      · subst hb81
        simp [find, pats, out, parse, one, east, small, ha98, ha112, ha103, ha115, ha41, hb33, hb66, hb83, hb50, hb51, hb52, hb78]
      simp [find, pats, out, parse, one, east, small, ha98, ha112, ha103, ha115, ha41, hb33, hb66, hb83, hb50, hb51, hb52, hb78, hb81]
    by_cases ha40 : a = 40
    · subst ha40
      by_cases hb33 : b = 33
      · subst hb33
        simp [find, pats, out, parse, one, east, small, ha98, ha112, ha103, ha115, ha41, ha45]
      by_cases hb66 : b = 66
      · subst hb66
        simp [find, pats, out, parse, one, east, small, ha98, ha112, ha103, ha115, ha41, ha45, hb33]
      by_cases hb83 : b = 83
      · subst hb83
        simp [find, pats, out, parse, one, east, small, ha98, ha112, ha103, ha115, ha41, ha45, hb33, hb66]
      by_cases hb50 : b = 50
      · subst hb50
        simp [find, pats, out, parse, one, east, small, ha98, ha112, ha103, ha115, ha41, ha45, hb33, hb66, hb83]
      by_cases hb51 : b = 51
      · subst hb51
        simp [find, pats, out, parse, one, east, small, ha98, ha112, ha103, ha115, ha41, ha45, hb33, hb66, hb83, hb50]
      by_cases hb52 : b = 52
      · subst hb52
        simp [find, pats, out, parse, one, east, small, ha98, ha112, ha103, ha115, ha41, ha45, hb33, hb66, hb83, hb50, hb51]
      by_cases hb78 : b = 78
      · subst hb78
        simp [find, pats, out, parse, one, east, small, ha98, ha112, ha103, ha115, ha41, ha45, hb33, hb66, hb83, hb50, hb51, hb52]
      by_cases hb81 : b = 81
      · subst hb81
        simp [find, pats, out, parse, one, east, small, ha98, ha112, ha103, ha115, ha41, ha45, hb33, hb66, hb83, hb50, hb51, hb52, hb78]
      simp [find, pats, out, parse, one, east, small, ha98, ha112, ha103, ha115, ha41, ha45, hb33, hb66, hb83, hb50, hb51, hb52, hb78, hb81]
    by_cases ha44 : a = 44
    · subst ha44
      by_cases hb33 : b = 33
      · subst hb33
        simp [find, pats, out, parse, one, east, small, ha98, ha112, ha103, ha115, ha41, ha45, ha40]
      by_cases hb66 : b = 66
      · subst hb66
        simp [find, pats, out, parse, one, east, small, ha98, ha112, ha103, ha115, ha41, ha45, ha40, hb33]
      by_cases hb83 : b = 83
      · subst hb83
        simp [find, pats, out, parse, one, east, small, ha98, ha112, ha103, ha115, ha41, ha45, ha40, hb33, hb66]
      by_cases hb50 : b = 50
      · subst hb50
        simp [find, pats, out, parse, one, east, small, ha98, ha112, ha103, ha115, ha41, ha45, ha40, hb33, hb66, hb83]
      by_cases hb51 : b = 51
      · subst hb51
        simp [find, pats, out, parse, one, east, small, ha98, ha112, ha103, ha115, ha41, ha45, ha40, hb33, hb66, hb83, hb50]
      by_cases hb52 : b = 52
      · subst hb52
        simp [find, pats, out, parse, one, east, small, ha98, ha112, ha103, ha115, ha41, ha45, ha40, hb33, hb66, hb83, hb50, hb51]
      by_cases hb78 : b = 78
      · subst hb78
        simp [find, pats, out, parse, one, east, small, ha98, ha112, ha103, ha115, ha41, ha45, ha40, hb33, hb66, hb83, hb50, hb51, hb52]
      by_cases hb81 : b = 81
      · subst hb81
        simp [find, pats, out, parse, one, east, small, ha98, ha112, ha103, ha115, ha41, ha45, ha40, hb33, hb66, hb83, hb50, hb51, hb52, hb78]
      simp [find, pats, out, parse, one, east, small, ha98, ha112, ha103, ha115, ha41, ha45, ha40, hb33, hb66, hb83, hb50, hb51, hb52, hb78, hb81]
    by_cases ha36 : a = 36
    · subst ha36
      by_cases hb49 : b = 49
      · subst hb49
        simp [find, pats, out, parse, one, east, small, ha98, ha112, ha103, ha115, ha41, ha45, ha40, ha44]
      by_cases hb44 : b = 44
      · subst hb44
        simp [find, pats, out, parse, one, east, small, ha98, ha112, ha103, ha115, ha41, ha45, ha40, ha44, hb49]
      by_cases hb41 : b = 41
      · subst hb41
        simp [find, pats, out, parse, one, east, small, ha98, ha112, ha103, ha115, ha41, ha45, ha40, ha44, hb49, hb44]
      by_cases hb45 : b = 45
      · subst hb45
        simp [find, pats, out, parse, one, east, small, ha98, ha112, ha103, ha115, ha41, ha45, ha40, ha44, hb49, hb44, hb41]
      simp [find, pats, out, parse, one, east, small, ha98, ha112, ha103, ha115, ha41, ha45, ha40, ha44, hb49, hb44, hb41, hb45]
    simp [find, pats, out, parse, one, east, small, ha98, ha112, ha103, ha115, ha41, ha45, ha40, ha44, ha36]
  | a :: b :: c :: t =>
    by_cases ha98 : a = 98
    · subst ha98
      simp [find, pats, out, parse, one, east, small]
    by_cases ha112 : a = 112
    · subst ha112
      simp [find, pats, out, parse, one, east, small, ha98]
    by_cases ha103 : a = 103
    · subst ha103
      simp [find, pats, out, parse, one, east, small, ha98, ha112]
    by_cases ha115 : a = 115
    · subst ha115
      simp [find, pats, out, parse, one, east, small, ha98, ha112, ha103]
    by_cases ha41 : a = 41
    · subst ha41
      by_cases hb33 : b = 33
      · subst hb33
        by_cases hc69 : c = 69
        · subst hc69
          simp [find, pats, out, parse, one, east, small, ha98, ha112, ha103, ha115]
        simp [find, pats, out, parse, one, east, small, ha98, ha112, ha103, ha115, hc69]
      by_cases hb66 : b = 66
      · subst hb66
        simp [find, pats, out, parse, one, east, small, ha98, ha112, ha103, ha115, hb33]
      by_cases hb83 : b = 83
      · subst hb83
        simp [find, pats, out, parse, one, east, small, ha98, ha112, ha103, ha115, hb33, hb66]
      by_cases hb50 : b = 50
      · subst hb50
        simp [find, pats, out, parse, one, east, small, ha98, ha112, ha103, ha115, hb33, hb66, hb83]
      by_cases hb51 : b = 51
      · subst hb51
        simp [find, pats, out, parse, one, east, small, ha98, ha112, ha103, ha115, hb33, hb66, hb83, hb50]
      by_cases hb52 : b = 52
      · subst hb52
        simp [find, pats, out, parse, one, east, small, ha98, ha112, ha103, ha115, hb33, hb66, hb83, hb50, hb51]
      by_cases hb78 : b = 78
      · subst hb78
        simp [find, pats, out, parse, one, east, small, ha98, ha112, ha103, ha115, hb33, hb66, hb83, hb50, hb51, hb52]
      by_cases hb81 : b = 81
      · subst hb81
        simp [find, pats, out, parse, one, east, small, ha98, ha112, ha103, ha115, hb33, hb66, hb83, hb50, hb51, hb52, hb78]
      simp [find, pats, out, parse, one, east, small, ha98, ha112, ha103, ha115, hb33, hb66, hb83, hb50, hb51, hb52, hb78, hb81]
    by_cases ha45 : a = 45
    · subst ha45
      by_cases hb33 : b = 33
      · subst hb33
        by_cases hc69 : c = 69
        · subst hc69
          simp [find, pats, out, parse, one, east, small, ha98, ha112, ha103, ha115, ha41]
        simp [find, pats, out, parse, one, east, small, ha98, ha112, ha103, ha115, ha41, hc69]
      by_cases hb66 : b = 66
      · subst hb66
        simp [find, pats, out, parse, one, east, small, ha98, ha112, ha103, ha115, ha41, hb33]
      by_cases hb83 : b = 83
      · subst hb83
        simp [find, pats, out, parse, one, east, small, ha98, ha112, ha103, ha115, ha41, hb33, hb66]
      by_cases hb50 : b = 50
      · subst hb50
        simp [find, pats, out, parse, one, east, small, ha98, ha112, ha103, ha115, ha41, hb33, hb66, hb83]
      by_cases hb51 : b = 51
      · subst hb51
        simp [find, pats, out, parse, one, east, small, ha98, ha112, ha103, ha115, ha41, hb33, hb66, hb83, hb50]
      by_cases hb52 : b = 52
      · subst hb52
        simp [find, pats, out, parse, one, east, small, ha98, ha112, ha103, ha115, ha41, hb33, hb66, hb83, hb50, hb51]
      by_cases hb78 : b = 78
      · subst hb78
        simp [find, pats, out, parse, one, east, small, ha98, ha112, ha103, ha115, ha41, hb33, hb66, hb83, hb50, hb51, hb52]
      by_cases hb81 : b = 81
      · subst hb81
        simp [find, pats, out, parse, one, east, small, ha98, ha112, ha103, ha115, ha41, hb33, hb66, hb83, hb50, hb51, hb52, hb78]
      simp [find, pats, out, parse, one, east, small, ha98, ha112, ha103, ha115, ha41, hb33, hb66, hb83, hb50, hb51, hb52, hb78, hb81]
    by_cases ha40 : a = 40
    · subst ha40
      by_cases hb33 : b = 33
      · subst hb33
        by_cases hc69 : c = 69
        · subst hc69
          simp [find, pats, out, parse, one, east, small, ha98, ha112, ha103, ha115, ha41, ha45]
        simp [find, pats, out, parse, one, east, small, ha98, ha112, ha103, ha115, ha41, ha45, hc69]
      by_cases hb66 : b = 66
      · subst hb66
        simp [find, pats, out, parse, one, east, small, ha98, ha112, ha103, ha115, ha41, ha45, hb33]
      by_cases hb83 : b = 83
      · subst hb83
        simp [find, pats, out, parse, one, east, small, ha98, ha112, ha103, ha115, ha41, ha45, hb33, hb66]
      by_cases hb50 : b = 50
      · subst hb50
        simp [find, pats, out, parse, one, east, small, ha98, ha112, ha103, ha115, ha41, ha45, hb33, hb66, hb83]
      by_cases hb51 : b = 51
      · subst hb51
        simp [find, pats, out, parse, one, east, small, ha98, ha112, ha103, ha115, ha41, ha45, hb33, hb66, hb83, hb50]
      by_cases hb52 : b = 52
      · subst hb52
        simp [find, pats, out, parse, one, east, small, ha98, ha112, ha103, ha115, ha41, ha45, hb33, hb66, hb83, hb50, hb51]
      by_cases hb78 : b = 78
      · subst hb78
        simp [find, pats, out, parse, one, east, small, ha98, ha112, ha103, ha115, ha41, ha45, hb33, hb66, hb83, hb50, hb51, hb52]
      by_cases hb81 : b = 81
      · subst hb81
        simp [find, pats, out, parse, one, east, small, ha98, ha112, ha103, ha115, ha41, ha45, hb33, hb66, hb83, hb50, hb51, hb52, hb78]
      simp [find, pats, out, parse, one, east, small, ha98, ha112, ha103, ha115, ha41, ha45, hb33, hb66, hb83, hb50, hb51, hb52, hb78, hb81]
    by_cases ha44 : a = 44
    · subst ha44
      by_cases hb33 : b = 33
      · subst hb33
        by_cases hc69 : c = 69
        · subst hc69
          simp [find, pats, out, parse, one, east, small, ha98, ha112, ha103, ha115, ha41, ha45, ha40]
        simp [find, pats, out, parse, one, east, small, ha98, ha112, ha103, ha115, ha41, ha45, ha40, hc69]
      by_cases hb66 : b = 66
      · subst hb66
        simp [find, pats, out, parse, one, east, small, ha98, ha112, ha103, ha115, ha41, ha45, ha40, hb33]
      by_cases hb83 : b = 83
      · subst hb83
        simp [find, pats, out, parse, one, east, small, ha98, ha112, ha103, ha115, ha41, ha45, ha40, hb33, hb66]
      by_cases hb50 : b = 50
      · subst hb50
        simp [find, pats, out, parse, one, east, small, ha98, ha112, ha103, ha115, ha41, ha45, ha40, hb33, hb66, hb83]
      by_cases hb51 : b = 51
      · subst hb51
        simp [find, pats, out, parse, one, east, small, ha98, ha112, ha103, ha115, ha41, ha45, ha40, hb33, hb66, hb83, hb50]
      by_cases hb52 : b = 52
      · subst hb52
        simp [find, pats, out, parse, one, east, small, ha98, ha112, ha103, ha115, ha41, ha45, ha40, hb33, hb66, hb83, hb50, hb51]
      by_cases hb78 : b = 78
      · subst hb78
        simp [find, pats, out, parse, one, east, small, ha98, ha112, ha103, ha115, ha41, ha45, ha40, hb33, hb66, hb83, hb50, hb51, hb52]
      by_cases hb81 : b = 81
      · subst hb81
        simp [find, pats, out, parse, one, east, small, ha98, ha112, ha103, ha115, ha41, ha45, ha40, hb33, hb66, hb83, hb50, hb51, hb52, hb78]
      simp [find, pats, out, parse, one, east, small, ha98, ha112, ha103, ha115, ha41, ha45, ha40, hb33, hb66, hb83, hb50, hb51, hb52, hb78, hb81]
    by_cases ha36 : a = 36
    · subst ha36
      by_cases hb49 : b = 49
      · subst hb49
        simp [find, pats, out, parse, one, east, small, ha98, ha112, ha103, ha115, ha41, ha45, ha40, ha44]
      by_cases hb44 : b = 44
      · subst hb44
        by_cases hc49 : c = 49
        · subst hc49
          simp [find, pats, out, parse, one, east, small, ha98, ha112, ha103, ha115, ha41, ha45, ha40, ha44, hb49]
        simp [find, pats, out, parse, one, east, small, ha98, ha112, ha103, ha115, ha41, ha45, ha40, ha44, hb49, hc49]
      by_cases hb41 : b = 41
      · subst hb41
        by_cases hc49 : c = 49
        · subst hc49
          simp [find, pats, out, parse, one, east, small, ha98, ha112, ha103, ha115, ha41, ha45, ha40, ha44, hb49, hb44]
        simp [find, pats, out, parse, one, east, small, ha98, ha112, ha103, ha115, ha41, ha45, ha40, ha44, hb49, hb44, hc49]
      by_cases hb45 : b = 45
      · subst hb45
        by_cases hc49 : c = 49
        · subst hc49
          simp [find, pats, out, parse, one, east, small, ha98, ha112, ha103, ha115, ha41, ha45, ha40, ha44, hb49, hb44, hb41]
        simp [find, pats, out, parse, one, east, small, ha98, ha112, ha103, ha115, ha41, ha45, ha40, ha44, hb49, hb44, hb41, hc49]
      simp [find, pats, out, parse, one, east, small, ha98, ha112, ha103, ha115, ha41, ha45, ha40, ha44, hb49, hb44, hb41, hb45]
    simp [find, pats, out, parse, one, east, small, ha98, ha112, ha103, ha115, ha41, ha45, ha40, ha44, ha36]

theorem parse_range (R : List Int) : 0 ≤ (parse R).2.2 ∧ (parse R).2.2 ≤ 3 := by
  cases R with
  | nil => simp [parse]
  | cons a t =>
    have h1 := one_range t
    have h2 := east_range t
    simp only [parse]
    repeat' split
    all_goals simp only
    all_goals omega

theorem code_27 (l0 : List Int) (a : Nat) (hl : l0.length ≤ 1000) (ha : a < l0.length) (s0 s1 : Int) :
    escape_Next.j0 100 l0 a false s0 s1 = some (out (parse (l0.drop (a + 1))) a s0 s1) := by
  have hw : wrap64 ((a : Int) + 1) = (a : Int) + 1 := w64_in (by omega) (by omega)
  have c1 : (0 : Int) ≤ (a : Int) + 1 := by omega
  have c2 : (a : Int) + 1 ≤ (l0.length : Int) := by omega
  have ht : ((a : Int) + 1).toNat = a + 1 := by omega
  have hp := parse_f 99 (by omega) (l0.drop (a + 1))
  have hr := parse_range (l0.drop (a + 1))
  have hw2 : wrap64 ((parse (l0.drop (a + 1))).2.2 + 1) = (parse (l0.drop (a + 1))).2.2 + 1 := w64_in (by omega) (by omega)
  rw [escape_Next.j0]
  simp only [hw, c1, c2, ht, hp, hw2, if_true, if_false, Option.bind_some, Bool.false_eq_true, out]
  repeat' split
  all_goals rfl

theorem pats_ok : ∀ p ∈ pats, p.1.length ≤ 1000 ∧ ∀ n ∈ p.1, 0 ≤ n ∧ n < 256 := by decide +kernel

theorem ref_27 (l0 : List Int) (a : Nat) (hl : l0.length ≤ 1000) (ha : a < l0.length) (hb : ∀ n ∈ l0, 0 ≤ n ∧ n < 256) (h27 : l0[a] = 27) (s0 s1 : Int) (k : Nat) (hk : 82 ≤ k) (hE : amanuensisref08_Escapes.f k = some (pats.map mk)) :
    amanuensisref08_Next.j0 (k + 1) l0 a false s0 s1 = some (out (parse (l0.drop (a + 1))) a s0 s1) := by
  rw [amanuensisref08_Next.j0]
  have hlen : pats.length = 40 := by decide
  have h := next_loop l0 a (by omega) hl hb pats (by omega) pats_ok s0 s1 40 0 k (by omega) (by omega) (by omega)
  have hd : l0.drop a = 27 :: l0.drop (a + 1) := by rw [List.drop_eq_getElem_cons ha, h27]
  rw [hd] at h
  simp only [List.drop_zero] at h
  rw [find_parse] at h
  simp only [hE, Option.bind_some, Bool.false_eq_true, if_false]
  exact h

theorem escapes99 : amanuensisref08_Escapes.f 99 = some (pats.map mk) := by kernel_rfl

theorem next_eq (l0 : List Int) (a : Int) (s0 s1 : Int) (hl : l0.length ≤ 1000) (hb : ∀ n ∈ l0, 0 ≤ n ∧ n < 256) :
    ∃ r, escape_Next.f 100 l0 a s0 s1 = some r ∧ amanuensisref08_Next.f 100 l0 a s0 s1 = some r := by
  have t1 : ∀ x, escape_Next.j0 100 l0 x true s0 s1 = some (0, 0, 0, 1, x) := fun x => by rw [escape_Next.j0]; rfl
  have t2 : ∀ x, amanuensisref08_Next.j0 100 l0 x true s0 s1 = some (0, 0, 0, 1, x) := fun x => by rw [amanuensisref08_Next.j0]; rfl
  unfold escape_Next.f amanuensisref08_Next.f
  by_cases h1 : a < 0
  · simp only [h1, if_true, t1, t2]; exact ⟨_, rfl, rfl⟩
  · by_cases h2 : a ≥ (l0.length : Int)
    · simp only [h1, h2, if_true, if_false, t1, t2]; exact ⟨_, rfl, rfl⟩
    · have h3 : 0 ≤ a := by omega
      have h4 : a < (l0.length : Int) := by omega
      simp only [h1, h2, h3, h4, if_true, if_false]
      obtain ⟨n, rfl⟩ : ∃ n : Nat, a = n := ⟨a.toNat, by omega⟩
      have hn : n < l0.length := by omega
      have hrd : rd l0 (n : Int) = l0[n] := by
        have : (n : Int).toNat = n := by omega
        simp [rd, List.getD_eq_getElem?_getD, hn]
      rw [hrd]
      by_cases h5 : l0[n] = 27
      · have e : (l0[n] != 27) = false := by simp [h5]
        rw [e]
        exact ⟨_, code_27 l0 n hl hn s0 s1, ref_27 l0 n hl hn hb h5 s0 s1 99 (by omega) escapes99⟩
      · have e : (l0[n] != 27) = true := by simp [h5]
        rw [e, t1, t2]
        exact ⟨_, rfl, rfl⟩

theorem answers100 : amanuensislaw14_answers.f 100 = some true := by kernel_rfl

theorem EscapeReads : amanuensislaw14_EscapeReads.Pure := by
  intro l0 a1 a2 b2 hm hy hb _ _ _
  refine ⟨100, ?_⟩
  unfold amanuensislaw14_EscapeReads.f
  by_cases h : (l0.length : Int) > 1000
  · simp only [h, if_true, answers100, Option.bind_some]
  · have hl : l0.length ≤ 1000 := by omega
    have hb2 : ∀ n ∈ l0, 0 ≤ n ∧ n < 256 := fun n hn => u8_wf (hb n hn)
    obtain ⟨r, h1, h2⟩ := next_eq l0 a1 a2 b2 hl hb2
    have hc : ([] : List Int).length + l0.length < 140737488355328 := by simp; omega
    simp only [h, if_false, Option.bind_some, hc, if_true, List.nil_append, h1, h2, answers100]
    simp
end Go.Proofs.Ytjkgabmhhehhjaa.Pure
