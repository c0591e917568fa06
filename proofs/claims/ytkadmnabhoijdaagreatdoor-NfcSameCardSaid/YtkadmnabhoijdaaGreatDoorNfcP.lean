/- Characters put together, in plain Lean: what nfc computes, and its laws. -/
import Derived.Test.YtkadmnabhoijdaaGreatDoorFind
import Derived.Test.YtkadmnabhoijdaaGreatDoorNfdP
set_option linter.unusedVariables false
namespace Go.Proofs.YtkadmnabhoijdaaGreatDoor.New
open Go Go.RowKit Go.Shelf Go.Proofs

def isPair (a b : Int) (p : P4) : Bool := p.2.2.2 && decide (p.2.1 = a) && decide (p.2.2.1 = b)
/-- What two characters are joined to. -/
def joinV (T : List P4) (a b : Int) : Int × Bool := match T.find? (isPair a b) with
  | none => (0, false)
  | some p => (p.1, true)

set_option maxHeartbeats 8000000 in
set_option maxRecDepth 1000000 in
theorem tjoin (T : List P4) (b cap : Nat) (x y : Int) (w : World) (hT : RowAt T w b) (hlen : T.length ≤ 100000) :
    Calls Tryz.prog 40 #[.slice (some ⟨b, 0, none⟩) T.length cap, .int .i32 x, .int .i32 y] w fun e w' => e = .returned (.tuple #[.int .i32 (joinV T x y).1, .bool (joinV T x y).2]) ∧ Below w.heap.size w w' := by
  obtain ⟨V, hV⟩ : ∃ V, joinV T x y = V := ⟨_, rfl⟩
  rw [hV]
  have HV : Aside (joinV T x y = V) := hV
  clear hV
  obtain ⟨n, hn⟩ : ∃ n, n = T.length := ⟨_, rfl⟩
  rw [← hn] at hlen ⊢
  have HN : Aside (n = T.length) := hn
  clear hn
  go_enter Tryz.func40, Tryz.ntmps40
  go_wp2
  go_loopw [12] (fun vi wr => ∃ i : Nat, vi = .int .i64 i ∧ i ≤ n ∧ Below w.heap.size w wr ∧ Aside (T.find? (isPair x y) = (T.drop i).find? (isPair x y)))
    (fun vi _ => n - (intOf vi).toNat)
  case atStart => exact ⟨0, rfl, Nat.zero_le _, Below.refl _ _, rfl⟩
  obtain ⟨i, rfl, hin, hbw, HI⟩ := hrel
  have hTr := hT.below hbw
  by_cases hlt : i < n
  · have hltz : (i : Int) < (n : Int) := by omega
    obtain ⟨p, hp⟩ : ∃ p, T[i]? = some p := ⟨_, List.getElem?_eq_getElem (by have := HN.out; omega)⟩
    obtain ⟨c0, c1, c2, c3⟩ := hTr.at _ p hp
    have hdrop : T.drop i = p :: T.drop (i + 1) := by
      obtain ⟨h, e⟩ := List.getElem?_eq_some_iff.1 hp
      rw [List.drop_eq_getElem_cons h, e]
    have hbl := hTr.lt
    obtain ⟨pr, pa, pb, pj⟩ := p
    simp only at c0 c1 c2 c3
    have HD : Aside ((T.drop i).find? (isPair x y) = if isPair x y (pr, pa, pb, pj) then some (pr, pa, pb, pj) else (T.drop (i + 1)).find? (isPair x y)) := by
      show _ = _
      rw [hdrop, List.find?_cons]
      split <;> simp_all
    clear hp hdrop
    have no : isPair x y (pr, pa, pb, pj) = false → Aside (T.find? (isPair x y) = (T.drop (i + 1)).find? (isPair x y)) := fun h => by
      have h1 := HI.out
      have h2 := HD.out
      rw [h] at h2
      simp only [Bool.false_eq_true, if_false] at h2
      exact h1.trans h2
    have yes : isPair x y (pr, pa, pb, pj) = true → V = (pr, true) := fun h => by
      have h1 := HI.out
      have h2 := HD.out
      rw [h] at h2
      simp only [if_true] at h2
      rw [← HV.out]
      unfold joinV
      rw [h1.trans h2]
    cases pj with
    | false =>
      have hno := no (by simp [isPair])
      clear no yes HI HD
      go_wp2
      exact ⟨⟨i + 1, by congr 1, by omega, hbw.alloc hbw.size _, hno⟩, by simp [intOf]; omega⟩
    | true =>
      by_cases hx : pa = x
      · by_cases hy : pb = y
        · have hV2 := yes (by simp [isPair, hx, hy])
          clear no yes HI HD HV
          subst hx hy hV2
          go_wp2
          go_ret2
          exact ⟨rfl, hbw.alloc hbw.size _⟩
        · have hno := no (by simp [isPair, hy])
          have hyb : (pb == y) = false := by simpa using hy
          clear no yes HI HD
          subst hx
          go_wp2
          exact ⟨⟨i + 1, by congr 1, by omega, hbw.alloc hbw.size _, hno⟩, by simp [intOf]; omega⟩
      · have hno := no (by simp [isPair, hx])
        have hxb : (pa == x) = false := by simpa using hx
        clear no yes HI HD
        go_wp2
        exact ⟨⟨i + 1, by congr 1, by omega, hbw.alloc hbw.size _, hno⟩, by simp [intOf]; omega⟩
  · obtain rfl : i = n := by omega
    have hltz : ¬ ((i : Int) < (i : Int)) := by omega
    have hV2 : V = (0, false) := by
      rw [← HV.out]
      unfold joinV
      rw [HI.out, List.drop_eq_nil_of_le (by have := HN.out; omega)]
      rfl
    clear HV HI
    subst hV2
    go_wp2
    go_ret2
    exact ⟨rfl, hbw⟩

end Go.Proofs.YtkadmnabhoijdaaGreatDoor.New
set_option linter.unusedVariables false
namespace Go.Proofs.YtkadmnabhoijdaaGreatDoor.Nfd
open Go.Proofs.YtkadmnabhoijdaaGreatDoor.Stab Go.Proofs.YtkadmnabhoijdaaGreatDoor.Look Go.Proofs.YtkadmnabhoijdaaGreatDoor.New

/-- What hangul joins. -/
def hanJ (a b : Int) : Option Int :=
  if 4352 ≤ a ∧ a < 4371 ∧ 4449 ≤ b ∧ b < 4470 then some (44032 + ((a - 4352) * 21 + b - 4449) * 28)
  else if (44032 ≤ a ∧ a < 55204) ∧ (a - 44032) % 28 = 0 ∧ 4519 < b ∧ b < 4547 then some (a + b - 4519) else none
/-- What two characters are. -/
def bothV (a b : Int) : Option Int := match hanJ a b with
  | some x => some x
  | none => if (joinV tableT a b).2 = true then some (joinV tableT a b).1 else none
/-- One more character: what is put together so far, where the last starter stands, the class of the last one behind it. -/
def addV (out : List Int) (i last r : Int) : List Int × Int × Int :=
  if 0 ≤ i ∧ (last < kOf r ∨ last < 0) then
    match bothV (out.getD i.toNat 0) r with
    | some x => (out.set i.toNat x, i, last)
    | none => if kOf r = 0 then (out ++ [r], out.length, -1) else (out ++ [r], i, kOf r)
  else if kOf r = 0 then (out ++ [r], out.length, -1) else (out ++ [r], i, kOf r)
def addS (s : List Int × Int × Int) (r : Int) : List Int × Int × Int := addV s.1 s.2.1 s.2.2 r
def compV (l : List Int) : List Int × Int × Int := l.foldl addS ([], -1, -1)
/-- All of them put together. -/
def nfcV (l : List Int) : List Int := (compV (nfdV l)).1

/-- The table's joins. -/
def joinsL : List Int := [768, 769, 770, 771, 772, 774, 775, 776, 777, 778, 779, 780, 787, 788, 795, 803, 807, 808, 817, 834, 837, 1619, 1620, 1621, 12441, 12442]
def okJ (p : P4) : Bool := !p.2.2.2 || (decide (classV p.1 = 0) && inL p.2.2.1 joinsL && inR32 p.1)
theorem joins_ok : tableT.all okJ = true := by decide +kernel
def okB (b : Int) : Bool := decide (0 < classV b) && decide (b ≠ 0) && decide (hanV b = []) && oneP b
theorem marksB_ok : joinsL.all okB = true := by decide +kernel
theorem join_mem {a b x : Int} (h : (joinV tableT a b).2 = true) (hx : (joinV tableT a b).1 = x) : ∃ p ∈ tableT, p.2.2.2 = true ∧ p.2.1 = a ∧ p.2.2.1 = b ∧ p.1 = x := by
  unfold joinV at h hx
  split at h
  · cases h
  · rename_i p hp
    rw [hp] at hx
    have h1 := List.find?_some hp
    simp only [isPair, Bool.and_eq_true, decide_eq_true_eq] at h1
    exact ⟨p, List.mem_of_find?_eq_some hp, h1.1.1, h1.1.2, h1.2, hx⟩
theorem join_ok {a b x : Int} (h : (joinV tableT a b).2 = true) (hx : (joinV tableT a b).1 = x) : kOf x = 0 ∧ 0 < kOf b ∧ apV x = apV a ++ [b] ∧ (-2147483648 ≤ x ∧ x ≤ 2147483647) := by
  obtain ⟨p, hp, h1, rfl, rfl, rfl⟩ := join_mem h hx
  have := List.all_eq_true.1 joins_ok p hp
  simp only [okJ, h1, Bool.not_true, Bool.false_or, Bool.and_eq_true, decide_eq_true_eq, inR32] at this
  obtain ⟨⟨c1, c4⟩, c5⟩ := this
  have hbm := List.all_eq_true.1 marksB_ok _ (inL_mem c4)
  simp only [okB, Bool.and_eq_true, decide_eq_true_eq] at hbm
  obtain ⟨⟨⟨c2, c3⟩, c6⟩, c7⟩ := hbm
  have hr := row_ok hp
  refine ⟨by unfold kOf; exact c1, by unfold kOf; exact c2, ?_, c5⟩
  have hs := split_row hp
  rw [if_neg c3] at hs
  have hb : atom p.2.2.1 := ⟨c6, by rw [oneP_none c7]⟩
  unfold apV
  have hh : hanV p.1 = [] := hanV_none (by have := hr.2.2.1; omega)
  rw [apF, if_pos hh, hs]
  show (if (2 : Int) = 2 then _ else _) = _
  rw [if_pos rfl, apF_more 2 p.2.1 hr.1.1, ap_none hb.1 hb.2]
theorem hanV_lv {a : Int} (h1 : 44032 ≤ a ∧ a < 55204) (h2 : (a - 44032) % 28 = 0) : hanV a = [4352 + (a - 44032) / 588, 4449 + (a - 44032) % 588 / 28] := by
  unfold hanV
  rw [if_pos h1, if_neg (by omega)]
theorem han_ok {a b x : Int} (h : hanJ a b = some x) : kOf x = 0 ∧ kOf b = 0 ∧ apV x = apV a ++ [b] ∧ (-2147483648 ≤ x ∧ x ≤ 2147483647) := by
  unfold hanJ at h
  split at h
  · rename_i hc
    obtain rfl := Option.some.inj h
    have hx : 44032 ≤ 44032 + ((a - 4352) * 21 + b - 4449) * 28 ∧ 44032 + ((a - 4352) * 21 + b - 4449) * 28 < 55204 := by omega
    refine ⟨k_syl hx.1 hx.2, k_jamo (by omega) (by omega), ?_, by omega⟩
    rw [ap_atom (jamo_atom (by omega) (by omega) : atom a)]
    unfold apV
    rw [ap_han (hanV_some hx), hanV_lv hx (by omega)]
    simp only [List.cons_append, List.nil_append, List.cons.injEq, and_true]
    omega
  · split at h
    · rename_i hc
      obtain rfl := Option.some.inj h
      have hx : 44032 ≤ a + b - 4519 ∧ a + b - 4519 < 55204 := by omega
      refine ⟨k_syl hx.1 hx.2, k_jamo (by omega) (by omega), ?_, by omega⟩
      unfold apV
      rw [ap_han (hanV_some hx), ap_han (hanV_some hc.1), hanV_lv hc.1 hc.2.1]
      unfold hanV
      rw [if_pos hx, if_pos (by omega)]
      simp only [List.cons_append, List.nil_append, List.cons.injEq, and_true]
      omega
    · cases h
theorem both_ok {a b x : Int} (h : bothV a b = some x) : kOf x = 0 ∧ apV x = apV a ++ [b] ∧ (-2147483648 ≤ x ∧ x ≤ 2147483647) := by
  unfold bothV at h
  split at h
  · rename_i y hy
    obtain rfl := Option.some.inj h
    have := han_ok hy
    exact ⟨this.1, this.2.2⟩
  · split at h
    · rename_i hj
      have := join_ok hj (Option.some.inj h)
      exact ⟨this.1, this.2.2⟩
    · cases h

/-- A mark that is greater than those ahead of it. -/
theorem order_past (r : Int) : ∀ (ms A : List Int), (∀ m ∈ ms, 0 < kOf m ∧ kOf m < kOf r) → orderV (A ++ r :: ms) = orderV (A ++ (ms ++ [r]))
  | [], A, _ => rfl
  | m :: ms, A, h => by
    have hm := h m (by simp)
    have e1 : orderV (A ++ r :: m :: ms) = orderV (A ++ m :: r :: ms) := orderA_swap A [] ms r m hm.1 hm.2
    rw [e1]
    have := order_past r ms (A ++ [m]) fun x hx => h x (by simp [hx])
    simpa using this

/-- What is known on the way: what is put together is the same text as what has been read. -/
def NcAt (D : List Int) (s : List Int × Int × Int) : Prop :=
  nfdV s.1 = D ∧ s.1.length ≤ D.length ∧ (∀ e ∈ s.1, -2147483648 ≤ e ∧ e ≤ 2147483647) ∧
  (s.2.1 = -1 ∨ ∃ pre x ms, s.1 = pre ++ x :: ms ∧ (s.2.1 = pre.length) ∧ kOf x = 0 ∧ (∀ m ∈ ms, 0 < kOf m ∧ atom m) ∧ (ms = [] ∧ s.2.2 = -1 ∨ ∃ q m, ms = q ++ [m] ∧ s.2.2 = kOf m) ∧
    (∀ m ∈ ms, kOf m ≤ s.2.2 ∧ ∀ d D', D = D' ++ [d] → kOf m ≤ kOf d))

theorem good_last {D : List Int} {r : Int} (h : Look.Good (D ++ [r])) {d : Int} {D' : List Int} (e : D = D' ++ [d]) (hr : 0 < kOf r) : kOf d ≤ kOf r := by
  subst e
  have := good_at _ h D'.length d r (by simp) (by simp)
  omega
theorem nfd_snoc {out D : List Int} {r : Int} (h : nfdV out = D) (hg : Look.Good (D ++ [r])) (ha : atom r) : nfdV (out ++ [r]) = D ++ [r] := by
  have e : nfdV (out ++ [r]) = orderV (out.flatMap apV ++ [r]) := by
    unfold nfdV
    rw [List.flatMap_append]
    simp [ap_atom ha]
  rw [e, ← orderV_more]
  have : orderV (out.flatMap apV) = D := h
  rw [this]
  exact good_orderV hg
theorem nc_push {D : List Int} {s : List Int × Int × Int} {r : Int} (h : NcAt D s) (hg : Look.Good (D ++ [r])) (ha : atom r) (hr : -2147483648 ≤ r ∧ r ≤ 2147483647) :
    NcAt (D ++ [r]) (if kOf r = 0 then (s.1 ++ [r], s.1.length, -1) else (s.1 ++ [r], s.2.1, kOf r)) := by
  obtain ⟨out, i, last⟩ := s
  obtain ⟨h1, h2, h3, h4⟩ := h
  simp only at h1 h2 h3 h4 ⊢
  have hn := nfd_snoc h1 hg ha
  have h5 : ∀ e ∈ out ++ [r], -2147483648 ≤ e ∧ e ≤ 2147483647 := fun e he => by
    rcases List.mem_append.1 he with he | he
    · exact h3 e he
    · simp at he; rw [he]; exact hr
  split
  · rename_i hz
    exact ⟨hn, by simp; omega, h5, .inr ⟨out, r, [], rfl, rfl, hz, by simp, .inl ⟨rfl, rfl⟩, by simp⟩⟩
  · rename_i hz
    have hp : 0 < kOf r := by have := k_nonneg r; omega
    refine ⟨hn, by simp; omega, h5, ?_⟩
    rcases h4 with h4 | ⟨pre, x, ms, e1, e2, e3, e4, e5, e6⟩
    · exact .inl h4
    · refine .inr ⟨pre, x, ms ++ [r], by rw [e1]; simp, e2, e3, fun m hm => ?_, .inr ⟨ms, r, rfl, rfl⟩, fun m hm => ?_⟩
      · rcases List.mem_append.1 hm with hm | hm
        · exact e4 m hm
        · simp at hm; rw [hm]; exact ⟨hp, ha⟩
      · have hk : kOf m ≤ kOf r := by
          rcases List.mem_append.1 hm with hm | hm
          · have hD : D ≠ [] := by
              intro e
              rw [e, e1] at h2
              simp at h2
            obtain ⟨D', d, rfl⟩ := (snoc_cases D).resolve_left hD
            have := (e6 m hm).2 d D' rfl
            have := good_last hg rfl hp
            omega
          · simp at hm; rw [hm]; exact Int.le_refl _
        refine ⟨hk, fun d D' e => ?_⟩
        have := (List.append_inj' e rfl).2
        simp at this
        rw [← this]
        exact hk
theorem nc_step {D : List Int} {s : List Int × Int × Int} {r : Int} (h : NcAt D s) (hg : Look.Good (D ++ [r])) (ha : atom r) (hr : -2147483648 ≤ r ∧ r ≤ 2147483647) : NcAt (D ++ [r]) (addS s r) := by
  have hpush := nc_push h hg ha hr
  obtain ⟨out, i, last⟩ := s
  unfold addS addV
  simp only at hpush ⊢
  split
  · rename_i hc
    split
    · rename_i x hx
      obtain ⟨h1, h2, h3, h4⟩ := h
      simp only at h1 h2 h3 h4 ⊢
      rcases h4 with h4 | ⟨pre, y, ms, e1, e2, e3, e4, e5, e6⟩
      · omega
      · have hi : i.toNat = pre.length := by omega
        have hget : out.getD i.toNat 0 = y := by rw [hi, e1]; simp
        rw [hget] at hx
        obtain ⟨b1, b2, b3⟩ := both_ok hx
        have hset : out.set i.toNat x = pre ++ x :: ms := by rw [hi, e1]; simp
        rw [hset]
        have hlt : ∀ m ∈ ms, 0 < kOf m ∧ kOf m < kOf r := fun m hm => by
          refine ⟨(e4 m hm).1, ?_⟩
          rcases e5 with ⟨rfl, _⟩ | ⟨q, m', rfl, hl⟩
          · cases hm
          · have := (e6 m hm).1
            have := k_nonneg m'
            have := hc.2
            omega
        have hF : (pre ++ x :: ms).flatMap apV = (pre.flatMap apV ++ apV y) ++ r :: ms := by
          simp only [List.flatMap_append, List.flatMap_cons, b2]
          rw [flat_atoms ms fun e he => (e4 e he).2]
          simp
        have hO : out.flatMap apV = (pre.flatMap apV ++ apV y) ++ ms := by
          rw [e1]
          simp only [List.flatMap_append, List.flatMap_cons]
          rw [flat_atoms ms fun e he => (e4 e he).2]
          simp
        refine ⟨?_, ?_, fun e he => ?_, .inr ⟨pre, x, ms, rfl, e2, b1, e4, e5, fun m hm => ⟨(e6 m hm).1, fun d D' e => ?_⟩⟩⟩
        · have hn := nfd_snoc h1 hg ha
          unfold nfdV at hn ⊢
          rw [hF, order_past r ms _ hlt]
          rw [List.flatMap_append, hO] at hn
          simp only [List.flatMap_cons, List.flatMap_nil, ap_atom ha] at hn
          simpa using hn
        · rw [e1] at h2; simp at h2 ⊢; omega
        · rcases List.mem_append.1 he with he | he
          · exact h3 e (by rw [e1]; simp [he])
          · rcases List.mem_cons.1 he with rfl | he
            · exact b3
            · exact h3 e (by rw [e1]; simp [he])
        · have := (List.append_inj' e rfl).2
          simp at this
          rw [← this]
          exact Int.le_of_lt (hlt m hm).2
    · exact hpush
  · exact hpush
theorem nc_all : ∀ (R D : List Int) (s : List Int × Int × Int), NcAt D s → Look.Good (D ++ R) → (∀ e ∈ R, atom e) → (∀ e ∈ R, -2147483648 ≤ e ∧ e ≤ 2147483647) → NcAt (D ++ R) (R.foldl addS s)
  | [], D, s, h, _, _, _ => by simpa using h
  | r :: R, D, s, h, hg, ha, hr => by
    have e : D ++ r :: R = (D ++ [r]) ++ R := by simp
    rw [e] at hg ⊢
    exact nc_all R (D ++ [r]) (addS s r) (nc_step h (good_left _ _ hg) (ha r (by simp)) (hr r (by simp))) hg (fun e he => ha e (by simp [he])) fun e he => hr e (by simp [he])
theorem nc_start : NcAt [] ([], -1, -1) := ⟨by decide +kernel, by simp, by simp, .inl rfl⟩
theorem nfc_at {l : List Int} (hl : ∀ x ∈ l, -2147483648 ≤ x ∧ x ≤ 2147483647) : NcAt (nfdV l) (compV (nfdV l)) := by
  have := nc_all (nfdV l) [] ([], -1, -1) nc_start (nfd_good l) (fun e he => nfd_atoms he) (nfd_range hl)
  simpa [compV] using this
theorem nfd_nfc {l : List Int} (hl : ∀ x ∈ l, -2147483648 ≤ x ∧ x ≤ 2147483647) : nfdV (nfcV l) = nfdV l := (nfc_at hl).1
theorem nfc_range {l : List Int} (hl : ∀ x ∈ l, -2147483648 ≤ x ∧ x ≤ 2147483647) : ∀ x ∈ nfcV l, -2147483648 ≤ x ∧ x ≤ 2147483647 := (nfc_at hl).2.2.1
theorem nfc_len {l : List Int} (hl : ∀ x ∈ l, -2147483648 ≤ x ∧ x ≤ 2147483647) : (nfcV l).length ≤ (nfdV l).length := (nfc_at hl).2.1
theorem nfc_twice {l : List Int} (hl : ∀ x ∈ l, -2147483648 ≤ x ∧ x ≤ 2147483647) : nfcV (nfcV l) = nfcV l := by
  show (compV (nfdV (nfcV l))).1 = _
  rw [nfd_nfc hl]; rfl
theorem nfc_nfd (l : List Int) : nfcV (nfdV l) = nfcV l := by
  show (compV (nfdV (nfdV l))).1 = _
  rw [nfd_twice]; rfl
theorem nfc_same {a b : List Int} (ha : ∀ x ∈ a, -2147483648 ≤ x ∧ x ≤ 2147483647) (hb : ∀ x ∈ b, -2147483648 ≤ x ∧ x ≤ 2147483647) : nfcV a = nfcV b ↔ nfdV a = nfdV b := by
  constructor
  · intro h
    rw [← nfd_nfc ha, ← nfd_nfc hb, h]
  · intro h
    show (compV (nfdV a)).1 = (compV (nfdV b)).1
    rw [h]
/-- The walk's own facts. -/
theorem nfc_e9 : nfcV [101, 769] = [233] := by decide +kernel
theorem nfd_e9 : nfdV [233] = [101, 769] ∧ nfdV [101, 769] = [101, 769] := by decide +kernel
end Go.Proofs.YtkadmnabhoijdaaGreatDoor.Nfd
