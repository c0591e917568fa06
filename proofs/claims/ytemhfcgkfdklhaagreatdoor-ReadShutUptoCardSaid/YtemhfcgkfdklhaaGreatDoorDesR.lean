/- amanuensisref08.Designate. -/
import Derived.Laws.Cover3
import Derived.Test.YtemhfcgkfdklhaaGreatDoorEscR
set_option linter.all false
namespace Go.Proofs.YtemhfcgkfdklhaaGreatDoor.Look
open Go Go.RowKit Go.Shelf Go.Proofs Go.Proofs.YtemhfcgkfdklhaaGreatDoor.Rd

def bl (s : ByteArray) : List Int := s.data.toList.map fun b => (b.toNat : Int)
theorem bl_len (s : ByteArray) : (bl s).length = s.size := by simp [bl]
theorem bytes_below (w : World) (e : TypeId) (s : ByteArray) : Below w.heap.size w (Lib.bytesWorld w e s) :=
  ⟨rfl, rfl, rfl, by rw [Lib.bytesWorld_size]; omega, fun k hk => Lib.bytesWorld_at_old w e s k hk⟩
theorem bytes_row (w : World) (e : TypeId) (s : ByteArray) : RowB (Lib.bytesWorld w e s) (some ⟨w.heap.size, 0, none⟩) (bl s) := fun _ => ⟨w.heap.size, 0, rfl, by rw [Lib.bytesWorld_size]; omega, fun j x hj => by
  have hlt := (List.getElem?_eq_some_iff.1 hj).1
  rw [bl_len] at hlt
  rw [Nat.zero_add, Lib.bytesWorld_cell w e s j hlt]
  unfold bl at hj
  rw [List.getElem?_map] at hj
  cases hg : s.data.toList[j]? with
  | none => rw [hg] at hj; simp at hj
  | some y =>
    rw [hg] at hj
    simp at hj
    rw [List.getD_eq_getElem?_getD, hg, ← hj]
    rfl⟩
/-- '[]byte(s)' at a list of operations, guarded or not. -/
theorem conv_bytes {ops : Array Oper} {rest : List Oper} {o : Oper} {a : Act} {Q : Exit → Act → World → Prop} {w : World} (x : Operand) (ho : o.op = .convert 9 22 x) (hw : Region.wanted o (yielded ops a.tmps) = true) (s : ByteArray) (hx : a.eval x = .string s)
    (h : ∀ c w', RowB w' (some ⟨w.heap.size, 0, none⟩) (bl s) → Below w.heap.size w w' → wpList Tryz.prog ops Q rest (a.put o.dst (.slice (some ⟨w.heap.size, 0, none⟩) s.size c)) w') : wpList Tryz.prog ops Q (o :: rest) a w := by
  refine wpList_step fun K hK => ?_
  rw [if_pos hw]
  have hr := Lib.run_convert_string_bytes (P := Tryz.prog) w 9 22 5 s Tryz.underlying9 Tryz.underlying22 Tryz.underlying5
  unfold Oper.wp
  simp [execOp, ho, hx, hr, Result.andThen]
  exact hK _ _ (h _ _ (bytes_row w _ s) (bytes_below w _ s))

def stepD (n : Int) (best : Option ByteArray) (e : Ent) : Option ByteArray :=
  if e.2.1 = 0 ∧ e.2.2 = n ∧ (match best with | none => true | some b => lessV (bl e.1) (bl b)) = true then some e.1 else best
def bestD (n : Int) (l : List Ent) : Option ByteArray := l.foldl (stepD n) none
theorem bestD_succ (n : Int) (i : Nat) (e : Ent) (h : escAll[i]? = some e) : bestD n (escAll.take (i + 1)) = stepD n (bestD n (escAll.take i)) e := by
  rw [List.take_succ, h]
  simp [bestD, List.foldl_append]
/-- The escapes lie at g. -/
structure EscAt (w : World) (g : Nat) : Prop where
  lt : g < w.heap.size
  cell : ∀ i e, escAll[i]? = some e → w.cell? ⟨g, i * 3, none⟩ = some (.string e.1) ∧ w.cell? ⟨g, i * 3 + 1, none⟩ = some (.int .i64 e.2.1) ∧ w.cell? ⟨g, i * 3 + 2, none⟩ = some (.int .i64 e.2.2)
theorem EscAt.below {w w' : World} {g : Nat} (h : EscAt w g) (hb : Below w.heap.size w w') : EscAt w' g :=
  ⟨Nat.lt_of_lt_of_le h.lt hb.size, fun i e he => ⟨(hb.cell (p := ⟨g, i * 3, none⟩) h.lt).trans (h.cell i e he).1, (hb.cell (p := ⟨g, i * 3 + 1, none⟩) h.lt).trans (h.cell i e he).2.1, (hb.cell (p := ⟨g, i * 3 + 2, none⟩) h.lt).trans (h.cell i e he).2.2⟩⟩
theorem flat_at : ∀ (l : List Ent) (i : Nat) (e : Ent), l[i]? = some e → (l.flatMap entCells)[i * 3]? = some (.string e.1) ∧ (l.flatMap entCells)[i * 3 + 1]? = some (.int .i64 e.2.1) ∧ (l.flatMap entCells)[i * 3 + 2]? = some (.int .i64 e.2.2)
  | [], i, e, h => by simp at h
  | x :: l, 0, e, h => by
    simp at h
    subst h
    exact ⟨rfl, rfl, rfl⟩
  | x :: l, i + 1, e, h => by
    have := flat_at l i e (by simpa using h)
    rw [List.flatMap_cons]
    have e1 : (i + 1) * 3 = (entCells x).length + i * 3 := by show _ = 3 + _; omega
    have e2 : (i + 1) * 3 + 1 = (entCells x).length + (i * 3 + 1) := by show _ = 3 + _; omega
    have e3 : (i + 1) * 3 + 2 = (entCells x).length + (i * 3 + 2) := by show _ = 3 + _; omega
    refine ⟨?_, ?_, ?_⟩
    · rw [e1, List.getElem?_append_right (by omega), Nat.add_sub_cancel_left]; exact this.1
    · rw [e2, List.getElem?_append_right (by omega), Nat.add_sub_cancel_left]; exact this.2.1
    · rw [e3, List.getElem?_append_right (by omega), Nat.add_sub_cancel_left]; exact this.2.2
theorem OwnE.at {w : World} {base : Nat} {v : Value} (h : OwnE w base v escAll) : ∃ g c, v = .slice (some ⟨g, 0, none⟩) 40 c ∧ EscAt w g := by
  have hc := fun g hg => World.ownsRow.cells h (g := g) hg
  rcases h.2 with ⟨_, h0⟩ | ⟨g, cap, cur, rfl, hb, hg, _⟩
  · exact absurd h0 (by decide)
  · refine ⟨g, cap, rfl, (Array.getElem?_eq_some_iff.1 hg).1, fun i e he => ?_⟩
    obtain ⟨k1, k2, k3⟩ := flat_at escAll i e he
    have j1 := hc g rfl _ _ k1
    have j2 := hc g rfl _ _ k2
    have j3 := hc g rfl _ _ k3
    rw [Addr.add_lit, Nat.zero_add] at j1 j2 j3
    exact ⟨j1, j2, j3⟩
theorem eqlNilY (w : World) (a : Option Addr) (n c : Nat) : (binOp .eql 22 (.slice a n c) (.slice none 0 0)).run Tryz.prog w = .ok (.bool a.isNone) w := Lib.run_eql_slice_nil w 22 5 a n c 0 0 Tryz.underlying22

set_option maxHeartbeats 8000000 in
set_option maxRecDepth 100000 in
theorem cDesignate (n : Int) (w : World) : Calls Tryz.prog 9 #[.int .i64 0, .int .i64 n] w fun e w' => Aside (Below w.heap.size w w') ∧ (bestD n escAll = none ∨ ∃ (B : ByteArray) (b c : Nat), bestD n escAll = some B ∧ e = .returned (.tuple #[.slice (some ⟨b, 0, none⟩) B.size c, .bool true]) ∧ Aside (RowB w' (some ⟨b, 0, none⟩) (bl B))) := by
  have HE : Hid (Calls Tryz.prog 20 #[] w fun e w' => ∃ g c, e = .returned (.slice (some ⟨g, 0, none⟩) 40 c) ∧ Aside (EscAt w' g ∧ Below w.heap.size w w')) := (cEscapes w).mono fun e w' ⟨v, h1, h2, h3⟩ => by
    obtain ⟨g, c, rfl, h⟩ := h2.at
    exact ⟨g, c, h1, h, h3⟩
  go_enter Tryz.func9, Tryz.ntmps9
  go_wp2_with (go_at_call 20; refine HE.out.mono ?_; rintro e w1 ⟨eg, ec, rfl, hA⟩; clear HE)
  go_loopg [6, 8] 40 (fun gq v6 v8 wr => ∃ i : Nat, v8 = .int .i64 (i : Int) ∧ i ≤ 40 ∧ 40 - i ≤ gq ∧ (bestD n (escAll.take i) = none ∧ v6 = .slice none 0 0 ∨ ∃ (B : ByteArray) (b c : Nat), bestD n (escAll.take i) = some B ∧ v6 = .slice (some ⟨b, 0, none⟩) B.size c ∧ Aside (RowB wr (some ⟨b, 0, none⟩) (bl B) ∧ B.size ≤ 1000)) ∧ Aside (EscAt wr eg ∧ Below w.heap.size w wr))
  case atStart => exact ⟨0, rfl, by omega, by omega, .inl ⟨rfl, rfl⟩, hA⟩
  case round =>
    obtain ⟨i, rfl, hi, hg1, hbest, HI⟩ := hrel
    have hnil0 : ∀ X : World, (binOp .eql 22 (.slice none 0 0) (.slice none 0 0)).run Tryz.prog X = .ok (.bool true) X := fun X => eqlNilY X none 0 0
    by_cases hlt : i < 40
    · have hltz : (i : Int) < 40 := by omega
      have hi0 : (0 : Int) ≤ (i : Int) := by omega
      obtain ⟨e, he⟩ : ∃ e, escAll[i]? = some e := ⟨_, List.getElem?_eq_getElem (by show i < 40; exact hlt)⟩
      obtain ⟨c0, c1, c2⟩ := HI.out.1.cell i e he
      have HS : Aside (bestD n (escAll.take (i + 1)) = stepD n (bestD n (escAll.take i)) e) := bestD_succ n i e he
      have hez : e.1.size ≤ 1000 := by
        have : ∀ x ∈ escAll, x.1.size ≤ 1000 := by decide
        exact this e (List.mem_of_getElem? he)
      obtain ⟨eb, sd, st⟩ := e
      simp only at c0 c1 c2 hez
      clear he
      rcases hbest with ⟨hb1, rfl⟩ | ⟨B, b, c, hb1, rfl, HRow⟩
      · have HB : Aside (bestD n (escAll.take i) = none) := hb1
        clear hb1
        by_cases hsd : sd = 0
        · subst hsd
          by_cases hst : st = n
          · subst hst
            go_wp2_with (refine conv_bytes _ rfl ?hw _ rfl ?_; (case hw => kernel_rfl); intro cq w2 hrow2 hb2)
            go_roundg (40 - (i + 1))
            case measure => omega
            case rel => exact ⟨i + 1, by first | rfl | go_num, by omega, by omega, .inr ⟨eb, _, _, by rw [HS.out, HB.out]; exact if_pos ⟨rfl, rfl, rfl⟩, rfl, hrow2, hez⟩, HI.out.1.below hb2, HI.out.2.trans (hb2.mono HI.out.2.size)⟩
          · have hstb : (st == n) = false := by simpa using hst
            go_wp2_with fail
            go_roundg (40 - (i + 1))
            case measure => omega
            case rel => exact ⟨i + 1, by first | rfl | go_num, by omega, by omega, .inl ⟨by rw [HS.out, HB.out]; exact if_neg fun h => hst h.2.1, rfl⟩, HI.out⟩
        · have hsb : (sd == 0) = false := by simpa using hsd
          go_wp2_with fail
          go_roundg (40 - (i + 1))
          case measure => omega
          case rel => exact ⟨i + 1, by first | rfl | go_num, by omega, by omega, .inl ⟨by rw [HS.out, HB.out]; exact if_neg fun h => hsd h.1, rfl⟩, HI.out⟩
      · have HB : Aside (bestD n (escAll.take i) = some B) := hb1
        have hBz := HRow.out.2
        have hnil1 : ∀ X : World, (binOp .eql 22 (.slice (some ⟨b, 0, none⟩) B.size c) (.slice none 0 0)).run Tryz.prog X = .ok (.bool false) X := fun X => eqlNilY X _ _ _
        clear hb1
        by_cases hsd : sd = 0
        · subst hsd
          by_cases hst : st = n
          · subst hst
            have HLs : Hid (∀ X b2 c2, RowB X (some ⟨b2, 0, none⟩) (bl eb) → RowB X (some ⟨b, 0, none⟩) (bl B) → Calls Tryz.prog 21 #[.slice (some ⟨b2, 0, none⟩) eb.size c2, .slice (some ⟨b, 0, none⟩) B.size c] X fun e w' => e = .returned (.bool (lessV (bl eb) (bl B))) ∧ Below X.heap.size X w') := fun X b2 c2 h1 h2 => by
              have := cLess (some ⟨b2, 0, none⟩) (some ⟨b, 0, none⟩) c2 c (bl eb) (bl B) X h1 h2 (by rw [bl_len]; omega) (by rw [bl_len]; omega)
              rwa [bl_len, bl_len] at this
            cases hless : lessV (bl eb) (bl B) with
            | true =>
              rw [hless] at HLs
              have HLT : Aside (lessV (bl eb) (bl B) = true) := hless
              clear hless
              go_wp2_with (first
                | (go_at_call 21; refine (HLs.out _ _ _ hrow2.out (HRow.out.1.below hb2)).mono ?_; rintro e w3 ⟨rfl, hb3⟩; have c0' := (hb3.cell (p := ⟨eg, i * 3, none⟩) (Nat.lt_of_lt_of_le HI.out.1.lt hb2.size)).trans ((hb2.cell (p := ⟨eg, i * 3, none⟩) HI.out.1.lt).trans c0); clear HLs)
                | (have hq3 := hb3; refine conv_bytes _ rfl ?hw _ rfl ?_; (case hw => kernel_rfl); intro cq4 w4 hrow4 hb4; clear hq3)
                | (refine conv_bytes _ rfl ?hw _ rfl ?_; (case hw => kernel_rfl); intro cq w2 hrow2 hb2; replace hrow2 := Lib.hid hrow2))
              go_roundg (40 - (i + 1))
              case measure => omega
              case rel =>
                have h3 := hb2.trans (hb3.mono hb2.size)
                have h4 := h3.trans (hb4.mono h3.size)
                exact ⟨i + 1, by first | rfl | go_num, by omega, by omega, .inr ⟨eb, _, _, by rw [HS.out, HB.out]; exact if_pos ⟨rfl, rfl, HLT.out⟩, rfl, hrow4, hez⟩, HI.out.1.below h4, HI.out.2.trans (h4.mono HI.out.2.size)⟩
            | false =>
              rw [hless] at HLs
              have HLT : Aside (lessV (bl eb) (bl B) = false) := hless
              clear hless
              go_wp2_with (first
                | (go_at_call 21; refine (HLs.out _ _ _ hrow2.out (HRow.out.1.below hb2)).mono ?_; rintro e w3 ⟨rfl, hb3⟩; have c0' := (hb3.cell (p := ⟨eg, i * 3, none⟩) (Nat.lt_of_lt_of_le HI.out.1.lt hb2.size)).trans ((hb2.cell (p := ⟨eg, i * 3, none⟩) HI.out.1.lt).trans c0); clear HLs)
                | (have hq3 := hb3; refine conv_bytes _ rfl ?hw _ rfl ?_; (case hw => kernel_rfl); intro cq4 w4 hrow4 hb4; clear hq3)
                | (refine conv_bytes _ rfl ?hw _ rfl ?_; (case hw => kernel_rfl); intro cq w2 hrow2 hb2; replace hrow2 := Lib.hid hrow2))
              go_roundg (40 - (i + 1))
              case measure => omega
              case rel =>
                have h3 := hb2.trans (hb3.mono hb2.size)
                exact ⟨i + 1, by first | rfl | go_num, by omega, by omega, .inr ⟨B, b, c, by rw [HS.out, HB.out]; exact if_neg (fun h => by have h2 : lessV (bl eb) (bl B) = true := h.2.2; rw [HLT.out] at h2; cases h2), rfl, HRow.out.1.below h3, HRow.out.2⟩, HI.out.1.below h3, HI.out.2.trans (h3.mono HI.out.2.size)⟩
          · have hstb : (st == n) = false := by simpa using hst
            go_wp2_with fail
            go_roundg (40 - (i + 1))
            case measure => omega
            case rel => exact ⟨i + 1, by first | rfl | go_num, by omega, by omega, .inr ⟨B, b, c, by rw [HS.out, HB.out]; exact if_neg fun h => hst h.2.1, rfl, HRow⟩, HI.out⟩
        · have hsb : (sd == 0) = false := by simpa using hsd
          go_wp2_with fail
          go_roundg (40 - (i + 1))
          case measure => omega
          case rel => exact ⟨i + 1, by first | rfl | go_num, by omega, by omega, .inr ⟨B, b, c, by rw [HS.out, HB.out]; exact if_neg fun h => hsd h.1, rfl, HRow⟩, HI.out⟩
    · have hi40 : i = 40 := by omega
      subst hi40
      have hall : escAll.take 40 = escAll := List.take_of_length_le (by decide)
      rw [hall] at hbest
      have hltz : ¬ (40 : Int) < 40 := by decide
      rcases hbest with ⟨hb1, rfl⟩ | ⟨B, b, c, hb1, rfl, HRow⟩
      · have HB : Aside (bestD n escAll = none) := hb1
        clear hb1
        have hnn : ∀ X : World, (binOp .neq 22 (.slice none 0 0) (.slice none 0 0)).run Tryz.prog X = .ok (.bool false) X := fun X => run_neq_slice_nil X _ 5 _ _ _ Tryz.underlying22
        go_wp2_with fail
        go_ret2
        exact ⟨HI.out.2, .inl HB.out⟩
      · have HB : Aside (bestD n escAll = some B) := hb1
        clear hb1
        have hnn : ∀ X : World, (binOp .neq 22 (.slice (some ⟨b, 0, none⟩) B.size c) (.slice none 0 0)).run Tryz.prog X = .ok (.bool true) X := fun X => run_neq_slice_nil X _ 5 _ _ _ Tryz.underlying22
        go_wp2_with fail
        go_ret2
        refine ⟨HI.out.2, .inr ⟨B, ?_⟩⟩
        first | exact ⟨b, c, HB.out, rfl, HRow.out.1⟩ | exact ⟨HB.out, b, c, rfl, HRow.out.1⟩ | exact ⟨HB.out, b, ⟨c, rfl⟩, HRow.out.1⟩
theorem best_esc (n : Int) (hn : n = 1 ∨ 3 ≤ n ∧ n ≤ 8) : ∃ B, bestD n escAll = some B ∧ bl B = escB n := by
  obtain rfl | rfl | rfl | rfl | rfl | rfl | rfl : n = 1 ∨ n = 3 ∨ n = 4 ∨ n = 5 ∨ n = 6 ∨ n = 7 ∨ n = 8 := by omega
  all_goals exact ⟨_, rfl, by decide⟩
theorem cDesB (n : Int) (hn : n = 1 ∨ 3 ≤ n ∧ n ≤ 8) (w : World) : Calls Tryz.prog 9 #[.int .i64 0, .int .i64 n] w fun e w' => ∃ b c, e = .returned (.tuple #[.slice (some ⟨b, 0, none⟩) (escB n).length c, .bool true]) ∧ Aside (RowB w' (some ⟨b, 0, none⟩) (escB n) ∧ Below w.heap.size w w') := by
  obtain ⟨B0, h1, h2⟩ := best_esc n hn
  refine (cDesignate n w).mono ?_
  rintro e w' ⟨hb, h | ⟨B, b, c, h3, rfl, h4⟩⟩
  · rw [h1] at h; cases h
  · rw [h1] at h3
    obtain rfl := Option.some.inj h3
    have hl : (escB n).length = B0.size := by rw [← h2, bl_len]
    refine ⟨b, c, by rw [hl], ?_, hb.out⟩
    rw [← h2]
    exact h4.out
end Go.Proofs.YtemhfcgkfdklhaaGreatDoor.Look
