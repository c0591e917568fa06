/- ReadShut, for the row. -/
import Derived.Test.YtemhfcgkfdklhaaGreatDoorDesR
import Derived.Test.YtemhfcgkfdklhaaGreatDoorAns15
set_option linter.all false
namespace Go.Proofs.YtemhfcgkfdklhaaGreatDoor.Look
open Go Go.RowKit Go.Shelf Go.Proofs Go.Proofs.YtemhfcgkfdklhaaGreatDoor.Rd

theorem append_bytes {ops : Array Oper} {rest : List Oper} {o : Oper} {a : Act} {Q : Exit → Act → World → Prop} {w : World} (hgd : o.guard = none) (s x : Operand)
    (ho : o.op = .call { callee := .builtin .append, args := #[s, x], argTypes := #[22, 22] }) (base : Nat) (v : Value) (xs : List Int) (hs : a.eval s = v) (hown : OwnY w base v xs) (vx : Value) (l : List Int) (hx : a.eval x = vx) (hsrc : SrcY w vx l)
    (hlen : xs.length + l.length ≤ 1000000000) (hbase : base ≤ w.heap.size)
    (h : ∀ v' w', OwnY w' base v' (xs ++ l) → Below base w w' → wpList Tryz.prog ops Q rest (a.put o.dst v') w') : wpList Tryz.prog ops Q (o :: rest) a w :=
  wpList_step fun K hK => step_append_bytes hgd s x ho base v xs hs hown vx l hx hsrc hlen hbase fun v' w' h1 h2 _ => hK _ _ (h v' w' h1 h2)
theorem OwnY.base {w : World} {base b2 : Nat} {v : Value} {l : List Int} (h : OwnY w base v l) (hb : b2 ≤ base) : OwnY w b2 v l := by
  refine ⟨h.1, ?_⟩
  rcases h.2 with h0 | ⟨g, cap, cur, h1, h2, h3⟩
  · exact .inl h0
  · exact .inr ⟨g, cap, cur, h1, Nat.le_trans hb h2, h3⟩
theorem OwnY.below {w w' : World} {base : Nat} {v : Value} {l : List Int} (h : OwnY w base v l) (hb : Below w.heap.size w w') : OwnY w' base v l :=
  World.ownsRow.kept (row := none) h ⟨hb.os, hb.tape, hb.output, hb.size, fun k hk _ => hb.block k hk⟩ (by cases v.ownBlock <;> simp)
theorem OwnY.src {w : World} {base : Nat} {v : Value} {l : List Int} (h : OwnY w base v l) : SrcY w v l := by
  obtain ⟨a, c, rfl, h1, _, h3⟩ := h.rowB
  exact h1.src h3
theorem OwnY.capm {w : World} {base : Nat} {a : Option Addr} {n c : Nat} {l : List Int} (h : OwnY w base (.slice a n c) l) : l.length ≤ c ∧ c ≤ 9223372036854775807 ∧ RowB w a l ∧ l.length = n := by
  obtain ⟨a', c', e, h1, h2, _⟩ := h.rowB
  injection e with e1 e2 e3
  subst e1 e3
  refine ⟨h2, ?_, h1, e2.symm⟩
  rcases h.2 with ⟨e, _⟩ | ⟨g, cap, cur, e, _, _, _, h5, _⟩
  · injection e with _ _ e; omega
  · injection e with _ _ e; unfold maxLen at h5; omega
theorem below_alloc {w w1 : World} (h : Below w.heap.size w w1) (o : Obj) : Below w.heap.size w (w1.alloc o) := h.alloc h.size o
theorem RowB.alloc {w : World} {a : Option Addr} {l : List Int} (h : RowB w a l) (o : Obj) : RowB (w.alloc o) a l := h.below ((Below.refl _ w).alloc (Nat.le_refl _) o)

theorem shut_four {w w3 w5 w6 F2 : World} {x v2 : Value} {out l1 e1 l : List Int} {a1 a2 : Option Addr} (h : Below w.heap.size w w3 ∧ OwnR w3 0 x out ∧ RowB w3 a1 e1 ∧ RowB w3 a2 l1) (h5 : Below w3.heap.size w3 w5) {B : Nat} (hy : OwnY w5 B v2 l) (h6 : Below w5.heap.size w5 w6) {p q : Int} (hF : F2 = w6.alloc (.cells #[.int .i64 p, .int .i64 q] 26)) (p' : Int) (M : Nat) (hp : p = p' := by rfl) (hq : q = M := by rfl) :
    Aside (Below w.heap.size w F2 ∧ OwnR F2 0 x out ∧ RowB F2 a2 l1 ∧ OwnY F2 0 v2 l ∧ At2 F2 w6.heap.size p' M 26) := by
  subst hF hp hq
  have h1 := h.1.trans (h5.mono h.1.size)
  have h2 := h1.trans (h6.mono h1.size)
  exact ⟨below_alloc h2 _, ((h.2.1.below h5).below h6).alloc _, ((h.2.2.2.below h5).below h6).alloc _, (((hy.below h6).base (Nat.zero_le _)).alloc _), At2.new _ _ _ _⟩
theorem shut_five {w F2 w9 w10 : World} {x y v2 : Value} {out l1 l : List Int} {a2 : Option Addr} {b7 : Nat} {p q : Int} (h : Below w.heap.size w F2 ∧ OwnR F2 0 x out ∧ RowB F2 a2 l1 ∧ OwnY F2 0 v2 l ∧ At2 F2 b7 p q 26) (h9 : Below F2.heap.size F2 w9) (h10 : OwnR w10 w9.heap.size y out ∧ Below w9.heap.size w9 w10) :
    Aside (Below w.heap.size w (w10.alloc (.cells #[.int .i64 0, .int .i64 0] 26)) ∧ OwnR (w10.alloc (.cells #[.int .i64 0, .int .i64 0] 26)) 0 x out ∧ OwnR (w10.alloc (.cells #[.int .i64 0, .int .i64 0] 26)) 0 y out ∧ At2 (w10.alloc (.cells #[.int .i64 0, .int .i64 0] 26)) b7 p q 26 ∧ At2 (w10.alloc (.cells #[.int .i64 0, .int .i64 0] 26)) w10.heap.size 0 0 26) := by
  have h1 := h.1.trans (h9.mono h.1.size)
  have h2 := h1.trans (h10.2.mono h1.size)
  have k := (h.2.2.2.2.below h9 h.2.2.2.2.lt)
  exact ⟨below_alloc h2 _, ((h.2.1.below h9).below h10.2).alloc _, (h10.1.base (Nat.zero_le _)).alloc _, (k.below h10.2 k.lt).alloc _, At2.new _ _ _ _⟩

set_option maxHeartbeats 8000000 in
set_option maxRecDepth 100000 in
theorem shutLaw (w : World) (hT : Tabs w) (a : Option Addr) (c : Nat) (l : List Int) (set : Int) (hra : RowB w a l) (hc1 : l.length ≤ c ∧ c ≤ 9223372036854775807) (hn : a = none → c = 0) (hya : ∀ x ∈ l, 0 ≤ x ∧ x ≤ 255) (hset : 0 ≤ set ∧ set ≤ 255) (hlen : l.length ≤ 2000000) :
    Calls Tryz.prog 3 #[.slice a l.length c, .int .u8 set] w fun e w' => e = .returned (.bool true) ∧ Below w.heap.size w w' := by
  have HA : Hid (∀ X, Below w.heap.size w X → Calls Tryz.prog 8 #[] X fun e w' => e = .returned (.bool true) ∧ Below X.heap.size X w') := fun X hX => answers X (hT.below hX)
  have H1 : Hid (Calls Tryz.prog 7 #[.slice a l.length c] w fun e w' => TextOk w w' (textV markV T0 l) e) := cText w hT a c l hra hc1.1 hc1.2 hlen hya
  obtain ⟨D, hD⟩ : ∃ D, D = textV markV T0 l := ⟨_, rfl⟩
  rw [← hD] at H1
  obtain ⟨N, hN⟩ : ∃ N, N = l.length := ⟨_, rfl⟩
  rw [← hN] at H1 ⊢
  have hNm : N ≤ 2000000 := by omega
  by_cases hbig : 300 < N
  · have hd : decide ((300 : Int) < (N : Int)) = true := decide_eq_true (by omega)
    have hz : (300 : Int) < (N : Int) := by omega
    have H1' : Hid (Calls Tryz.prog 7 #[.slice a N c] w fun e w' => ∃ x e0 e1, e = .returned (.tuple #[x, .agg #[.int .i64 e0, .int .i64 e1]]) ∧ Aside (Below w.heap.size w w')) := H1.out.mono fun e w' h => by
      cases D with
      | ok s => obtain ⟨v, h1, h2, h3⟩ := h; exact ⟨v, 0, 0, h1, h3⟩
      | bad p q => exact ⟨_, p, q, h.1, h.2⟩
    clear H1 hD hN hra hc1 hn hya hT hlen
    go_enter Tryz.func3, Tryz.ntmps3
    go_wp2_with (first
      | (go_at_call 8; refine (HA.out _ (below_alloc hb1.out (.cells #[.int .i64 e0, .int .i64 e1] 26))).mono ?_; rintro e w5 ⟨rfl, hb5⟩; clear HA)
      | (go_at_call 7; refine H1'.out.mono ?_; rintro e w1 ⟨x, e0, e1, rfl, hb1⟩; clear H1'))
    go_ret
    have hf := below_alloc hb1.out (.cells #[.int .i64 e0, .int .i64 e1] 26)
    exact ⟨rfl, hf.trans (hb5.mono hf.size)⟩
  · have hd : decide ((300 : Int) < (N : Int)) = false := decide_eq_false (by omega)
    have hz : ¬ (300 : Int) < (N : Int) := by omega
    cases D with
    | bad e0 e1 =>
      have he0 : e0 ≠ 0 := by
        rintro rfl
        have hD' := hD.symm
        unfold textV at hD'
        split at hD'
        · split at hD'
          · injection hD' with h1 h2; omega
          · cases hD'
        · rename_i h
          injection hD' with h1 h2
          exact decodeV_bad h h1
      have heb : (e0 == 0) = false := by simpa using he0
      have H1' : Hid (Calls Tryz.prog 7 #[.slice a N c] w fun e w' => e = .returned (.tuple #[.slice none 0 0, .agg #[.int .i64 e0, .int .i64 e1]]) ∧ Aside (Below w.heap.size w w')) := H1.out.mono fun e w' h => ⟨h.1, h.2⟩
      clear H1 hD hN hra hc1 hn hya hT hlen he0
      go_enter Tryz.func3, Tryz.ntmps3
      go_wp2_with (first
        | (go_at_call 8; refine (HA.out _ (below_alloc hb1.out (.cells #[.int .i64 e0, .int .i64 e1] 26))).mono ?_; rintro e w5 ⟨rfl, hb5⟩; clear HA)
        | (go_at_call 7; refine H1'.out.mono ?_; rintro e w1 ⟨rfl, hb1⟩; clear H1'))
      go_ret
      have hf := below_alloc hb1.out (.cells #[.int .i64 e0, .int .i64 e1] 26)
      exact ⟨rfl, hf.trans (hb5.mono hf.size)⟩
    | ok s =>
      obtain ⟨n, hnn⟩ : ∃ n, n = 3 + set % 6 := ⟨_, rfl⟩
      have hn38 : 3 ≤ n ∧ n ≤ 8 := by omega
      have htold := shut_told hD.symm n hn38
      obtain ⟨t, hback, hout⟩ := shut_back hD.symm n hn38
      have hlenE : (escB n).length = 3 := by unfold escB; rw [if_neg (by omega)]; rfl
      have hbyE : ∀ x ∈ escB n, 0 ≤ x ∧ x ≤ 255 := by
        obtain rfl | rfl | rfl | rfl | rfl | rfl : n = 3 ∨ n = 4 ∨ n = 5 ∨ n = 6 ∨ n = 7 ∨ n = 8 := by omega
        all_goals decide
      have hbyB : ∀ x ∈ escB 1, 0 ≤ x ∧ x ≤ 255 := by decide
      have H1' : Hid (Calls Tryz.prog 7 #[.slice a N c] w fun e w' => ∃ x, e = .returned (.tuple #[x, .agg #[.int .i64 0, .int .i64 0]]) ∧ Aside (OwnR w' w.heap.size x s.out ∧ Below w.heap.size w w')) := H1.out.mono fun e w' ⟨v, h1, h2, h3⟩ => ⟨v, h1, h2, h3⟩
      have HDn : Hid (∀ X, Calls Tryz.prog 9 #[.int .i64 0, .int .i64 n] X fun e w' => ∃ b c, e = .returned (.tuple #[.slice (some ⟨b, 0, none⟩) (escB n).length c, .bool true]) ∧ Aside (RowB w' (some ⟨b, 0, none⟩) (escB n) ∧ Below X.heap.size X w')) := cDesB n (.inr hn38)
      have HD1 : Hid (∀ X, Calls Tryz.prog 9 #[.int .i64 0, .int .i64 1] X fun e w' => ∃ b c, e = .returned (.tuple #[.slice (some ⟨b, 0, none⟩) (escB 1).length c, .bool true]) ∧ Aside (RowB w' (some ⟨b, 0, none⟩) (escB 1) ∧ Below X.heap.size X w')) := cDesB 1 (.inl rfl)
      have H2 : Hid (∀ X B a' n' c', Below w.heap.size w X → OwnY X B (.slice a' n' c') (l ++ escB n) → Calls Tryz.prog 7 #[.slice a' n' c'] X fun e w' => e = .returned (.tuple #[.slice none 0 0, .agg #[.int .i64 7, .int .i64 (n' : Int)]]) ∧ Below X.heap.size X w') := fun X B a' n' c' hX hy => by
        obtain ⟨k1, k2, k3, rfl⟩ := hy.capm
        refine (cText X (hT.below hX) a' c' (l ++ escB n) k3 k1 k2 (by rw [List.length_append]; omega) (fun x hx => (List.mem_append.1 hx).elim (hya x) (hbyE x))).mono ?_
        rw [htold]
        exact fun e w' h => ⟨h.1, h.2⟩
      have H3 : Hid (∀ X B v, Below w.heap.size w X → OwnY X B v (l ++ escB n ++ escB 1) → Calls Tryz.prog 7 #[v] X fun e w' => ∃ y, e = .returned (.tuple #[y, .agg #[.int .i64 0, .int .i64 0]]) ∧ Aside (OwnR w' X.heap.size y s.out ∧ Below X.heap.size X w')) := fun X B v hX hy => by
        obtain ⟨a', c', rfl, _⟩ := hy.rowB
        obtain ⟨k1, k2, k3, _⟩ := hy.capm
        refine (cText X (hT.below hX) a' c' (l ++ escB n ++ escB 1) k3 k1 k2 (by rw [List.length_append, List.length_append]; show _ + _ + 2 ≤ _; omega) (fun x hx => (List.mem_append.1 hx).elim (fun h => (List.mem_append.1 h).elim (hya x) (hbyE x)) (hbyB x))).mono ?_
        rw [hback]
        rintro e w' ⟨y, h1, h2, h3⟩
        exact ⟨y, h1, by rw [← hout]; exact h2, h3⟩
      have hso : s.out.length ≤ 300 := by
        have := (text_ok hD.symm).1
        have h2 := @decode_len markV T0 l 1 2
        rw [this] at h2
        have h3 : s.out.length ≤ l.length := h2
        omega
      have HR : Hid (∀ X y1 y2, OwnR X 0 y1 s.out → OwnR X 0 y2 s.out → Calls Tryz.prog 10 #[y1, y2] X fun e w' => e = .returned (.bool true) ∧ Below X.heap.size X w') := fun X y1 y2 h1 h2 => by
        obtain ⟨a', c', rfl, k1⟩ := h1.rowR
        obtain ⟨a'', c'', rfl, k2⟩ := h2.rowR
        have := cRunes a' a'' c' c'' s.out s.out X k1 k2 (by omega) (by omega)
        rwa [decide_eq_true rfl] at this
      have HSA : Aside (∀ X, Below w.heap.size w X → SrcY X (.slice a N c) l) := fun X hX => by rw [hN]; exact (hra.below hX).src hn
      have HL : Aside (l.length ≤ 300 ∧ (escB n).length = 3 ∧ n = 3 + set % 6) := ⟨by omega, hlenE, hnn⟩
      obtain ⟨out, hot⟩ : ∃ z, z = s.out := ⟨_, rfl⟩
      rw [← hot] at H1' H3 HR
      clear H1 hD hN hra hc1 hn hya hT hlen htold hback hout hlenE hbyE hbyB hso hot
      obtain ⟨LE, hLE⟩ : ∃ z, z = (escB n).length := ⟨_, rfl⟩
      obtain ⟨LB, hLB⟩ : ∃ z, z = (escB 1).length := ⟨_, rfl⟩
      rw [← hLE] at HDn
      rw [← hLB] at HD1
      have HLE : Aside (LE = (escB n).length ∧ LB = (escB 1).length) := ⟨hLE, hLB⟩
      clear hLE hLB
      go_enter Tryz.func3, Tryz.ntmps3
      rw [hnn] at HDn
      go_upto_region 9 with (first
        | (have q2 := hY2; go_at_call 7; refine (H2.out _ _ _ _ _ hS3b.out hY2.out).mono ?_; rintro e w6 ⟨rfl, hb6⟩; have hS4' := shut_four hS3.out hb5.out hY2.out hb6 (F2 := w6.alloc (.cells #[.int .i64 7, .int .i64 (M1 : Int)] 26)) rfl 7 M1; clear H2 q2)
        | (have q1 := ho1; at_builtin; refine append_bytes rfl _ _ rfl w3.heap.size _ _ rfl ho1.out _ (escB n) rfl (by rw [HLE.out.1]; exact (hS3.out.2.2.1.below hb4.out).src (fun e => by cases e)) (by have := HL.out; rw [List.nil_append]; omega) hb4.out.size ?_; intro v2 w5 ho2' hb5'; have hb5 : Aside (Below w3.heap.size w3 w5) := hb4.out.trans hb5'; obtain ⟨ya, yc, rfl, _⟩ := OwnY.rowB ho2'; obtain ⟨M1, hM1⟩ : ∃ z, z = ([] ++ l ++ escB n).length := ⟨_, rfl⟩; have hY2 : Aside (OwnY w5 w3.heap.size (.slice ya M1 yc) (l ++ escB n)) := (by rw [hM1]; exact ho2'); rw [← hM1]; have hS3b : Aside (Below w.heap.size w w5) := hS3.out.1.trans (hb5.out.mono hS3.out.1.size); clear ho2' hb5' hM1 q1)
        | (have q1 := hS3; at_builtin; refine append_bytes rfl _ _ rfl w3.heap.size _ [] rfl (OwnY.made w3 _ (Nat.le_refl _)) _ l rfl (HSA.out _ (below_alloc hS3.out.1 _)) (by have := HL.out; simp; omega) (by simp) ?_; intro v1 w4 ho1' hb4'; have hb4 : Aside (Below w3.heap.size w3 w4) := ((Below.refl _ w3).alloc (Nat.le_refl _) _).trans hb4'; have ho1 : Aside (OwnY w4 w3.heap.size v1 ([] ++ l)) := ho1'; clear ho1' hb4' q1)
        | (have q1 := hS2; go_at_call 9; refine (HD1.out _).mono ?_; rintro e w3 ⟨b2, k2, rfl, hA3⟩; have hS3 : Aside (Below w.heap.size w w3 ∧ OwnR w3 0 x out ∧ RowB w3 (some ⟨b1, 0, none⟩) (escB n) ∧ RowB w3 (some ⟨b2, 0, none⟩) (escB 1)) := ⟨hS2.out.1.trans (hA3.out.2.mono hS2.out.1.size), hS2.out.2.1.below hA3.out.2, hS2.out.2.2.below hA3.out.2, hA3.out.1⟩; clear HD1 hA3 q1)
        | (have q1 := hS1; go_at_call 9; refine (HDn.out _).mono ?_; rintro e w2 ⟨b1, k1, rfl, hA2⟩; have hS2 : Aside (Below w.heap.size w w2 ∧ OwnR w2 0 x out ∧ RowB w2 (some ⟨b1, 0, none⟩) (escB n)) := ⟨hS1.out.1.trans (hA2.out.2.mono hS1.out.1.size), hS1.out.2.below hA2.out.2, by have h := hA2.out.1; rw [← HL.out.2.2] at h; exact h⟩; clear HDn hA2 q1)
        | (go_at_call 7; refine H1'.out.mono ?_; rintro e w1 ⟨x, rfl, hA⟩; have hS1 : Aside (Below w.heap.size w (w1.alloc (.cells #[.int .i64 0, .int .i64 0] 26)) ∧ OwnR (w1.alloc (.cells #[.int .i64 0, .int .i64 0] 26)) 0 x out) := ⟨below_alloc hA.out.2 _, (hA.out.1.alloc _).base (Nat.zero_le _)⟩; clear H1' hA))
      obtain ⟨F2, hF2⟩ : ∃ Z, Z = w6.alloc (.cells #[.int .i64 7, .int .i64 (M1 : Int)] 26) := ⟨_, rfl⟩
      rw [← hF2] at hS4' ⊢
      have hS4 := hS4'
      clear hF2 hS4'
      obtain ⟨b14, hb14⟩ : ∃ z, z = w6.heap.size := ⟨_, rfl⟩
      rw [← hb14] at hS4 ⊢
      clear hb14
      go_wp2_with (first
        | (have q5 := hS5; go_at_call 10; refine (HR.out _ _ _ hS6.out.2.1 hS6.out.2.2).mono ?_; rintro e w12 ⟨rfl, hb12⟩)
        | (have q5 := hS5; go_at_call 8; refine (HA.out _ hS5.out.1).mono ?_; rintro e w11 ⟨rfl, hb11⟩; obtain ⟨s0, s1, sf0, sf1, sl⟩ := (hS5.out.2.2.2.1.below hb11 hS5.out.2.2.2.1.lt).cells; obtain ⟨t0, t1, tf0, tf1, tl⟩ := (hS5.out.2.2.2.2.below hb11 hS5.out.2.2.2.2.lt).cells; have hS6 : Aside (Below w.heap.size w w11 ∧ OwnR w11 0 x out ∧ OwnR w11 0 y out) := ⟨hS5.out.1.trans (hb11.mono hS5.out.1.size), hS5.out.2.1.below hb11, hS5.out.2.2.1.below hb11⟩)
        | (have q4 := ho4; go_at_call 7; refine (H3.out _ _ _ hS4b.out ho4.out).mono ?_; rintro e w10 ⟨y, rfl, hA10⟩; have hS5 := shut_five hS4.out hb9.out hA10.out; clear H3 q4)
        | (have q3 := ho3; at_builtin; refine append_bytes rfl _ _ rfl F2.heap.size _ _ rfl ho3.out _ (escB 1) rfl (by rw [HLE.out.2]; exact (hS4.out.2.2.1.below hb8.out).src (fun e => by cases e)) (by have := HL.out; rw [List.nil_append, List.length_append]; show _ + _ + 2 ≤ _; omega) hb8.out.size ?_; intro v4 w9 ho4' hb9'; have hb9 : Aside (Below F2.heap.size F2 w9) := hb8.out.trans hb9'; have ho4 : Aside (OwnY w9 F2.heap.size v4 (l ++ escB n ++ escB 1)) := ho4'; have hS4b : Aside (Below w.heap.size w w9) := hS4.out.1.trans (hb9.out.mono hS4.out.1.size); clear ho4' hb9' q3)
        | (have q3 := hS4; at_builtin; refine append_bytes rfl _ _ rfl F2.heap.size _ [] rfl (OwnY.made F2 _ (Nat.le_refl _)) _ (l ++ escB n) rfl ((OwnY.alloc hS4.out.2.2.2.1 _).src) (by have := HL.out; rw [List.length_append]; simp; omega) (by simp) ?_; intro v3 w8 ho3' hb8'; have hb8 : Aside (Below F2.heap.size F2 w8) := ((Below.refl _ F2).alloc (Nat.le_refl _) _).trans hb8'; have ho3 : Aside (OwnY w8 F2.heap.size v3 ([] ++ (l ++ escB n))) := ho3'; clear ho3' hb8' q3))
      go_ret
      exact ⟨rfl, hS6.out.1.trans (hb12.mono hS6.out.1.size)⟩
end Go.Proofs.YtemhfcgkfdklhaaGreatDoor.Look
set_option linter.unusedVariables false
namespace Go.Proofs.YtemhfcgkfdklhaaGreatDoor.Look
open Go Go.RowKit Go.Shelf Go.Proofs Go.Proofs.YtemhfcgkfdklhaaGreatDoor.Rd

/-- A slice of bytes that came in. -/
structure InB (W : World) (a : Option Addr) (len cap : Nat) (l : List Int) : Prop where
  row : RowB W a l
  size : l.length = len
  room : len ≤ cap ∧ cap ≤ 140737488351232
  nil : a = none → cap = 0
  byte : ∀ x ∈ l, 0 ≤ x ∧ x ≤ 255
theorem shutW {W : World} {a1 : Option Addr} {n1 c1 : Nat} {la : List Int} (h1 : InB W a1 n1 c1 la) (hz : n1 ≤ 1048576) (set : Int) (h2 : 0 ≤ set) (h3 : set ≤ 255) (hT : Tabs W) :
    Calls Tryz.prog 3 #[.slice a1 n1 c1, .int .u8 set] W fun e w' => e = .returned (.bool true) ∧ Below W.heap.size W w' := by
  obtain ⟨k1, rfl, k3, k4, k5⟩ := h1
  exact shutLaw W hT a1 c1 la set k1 ⟨k3.1, by omega⟩ k4 k5 ⟨h2, h3⟩ (by omega)
end Go.Proofs.YtemhfcgkfdklhaaGreatDoor.Look
