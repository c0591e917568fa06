/- pairs.New: its two ranges. -/
import Derived.Test.YtkadmnabhoijdaaDoorPTab
import Derived.Test.YtkadmnabhoijdaaDoorSortP
set_option linter.unusedVariables false
namespace Go.Proofs.YtkadmnabhoijdaaDoor.New
open Go Go.RowKit Go.Shelf Go.Proofs Go.Proofs.YtkadmnabhoijdaaDoor.Seq Go.Proofs.YtkadmnabhoijdaaDoor.Hex Go.Proofs.YtkadmnabhoijdaaDoor.Reg
attribute [local go_sem] Oper.semAt_some

/-- A line: its mark and what stands behind it. -/
structure LineIs (x m l : ByteArray) (v : Nat) (rs : List Int) : Prop where
  cut : ∃ i : Nat, Lib.indexByte x.data.toList 32 = i ∧ i < x.size ∧ x.extract 0 i = m ∧ x.extract (i + 1) x.size = l
  size : x.size < 4294967281
  hv : hexV 0 m.data.toList = some v
  m1 : m.size ≠ 0
  m2 : m.size ≤ 4
  vb : v < 65536
  runes : Conv.runesFrom l l.size 0 #[] = (rs.map (Value.int .i32)).toArray
  len : rs.length ≤ 4096

def pairsOf (v : Int) : List Int → List P4
  | y :: x :: t => (x, y, v, true) :: pairsOf v t
  | _ => []
theorem pairsOf_at (v : Int) : ∀ (rs : List Int) (k : Nat) (x y : Int), rs[2 * k]? = some y → rs[2 * k + 1]? = some x → (pairsOf v rs)[k]? = some (x, y, v, true)
  | [], k, x, y, h, _ => by simp at h
  | [a], 0, x, y, _, h => by simp at h
  | [a], k + 1, x, y, h, _ => by simp [Nat.mul_add] at h
  | a :: b :: t, 0, x, y, h1, h2 => by simp at h1 h2; simp [pairsOf, h1, h2]
  | a :: b :: t, k + 1, x, y, h1, h2 => by
    have e1 : 2 * (k + 1) = 2 * k + 1 + 1 := by omega
    rw [e1] at h1 h2
    simpa [pairsOf] using pairsOf_at v t k x y (by simpa using h1) (by simpa using h2)
theorem pairsOf_length (v : Int) : ∀ rs : List Int, (pairsOf v rs).length = rs.length / 2
  | [] => rfl
  | [a] => by simp [pairsOf]
  | a :: b :: t => by simp only [pairsOf, List.length_cons, pairsOf_length v t]; omega

/-- A word of the second text: its fields. -/
structure WordIs (y : ByteArray) (fw : List ByteArray) (s0 s1 s2 : ByteArray) (a b c : Nat) : Prop where
  fz : FF.fieldsG y = fw
  size : y.size < 4294967281
  len : fw.length ≤ 1000
  w0 : (fw ++ [⟨#[48]⟩])[0]? = some s0
  w1 : (fw ++ [⟨#[48]⟩])[1]? = some s1
  w2 : (fw ++ [⟨#[48]⟩])[2]? = some s2
  h0 : hexV 0 s0.data.toList = some a ∧ s0.size ≠ 0 ∧ s0.size ≤ 4 ∧ a < 65536
  h1 : hexV 0 s1.data.toList = some b ∧ s1.size ≠ 0 ∧ s1.size ≤ 4 ∧ b < 65536
  h2 : hexV 0 s2.data.toList = some c ∧ s2.size ≠ 0 ∧ s2.size ≤ 4 ∧ c < 65536
def wordsIs (ys : List ByteArray) (g : ByteArray → P4) : Prop := ∀ y ∈ ys, ∃ fw s0 s1 s2 a b c, WordIs y fw s0 s1 s2 a b c ∧ g y = ((a : Int), (b : Int), (c : Int), false)
theorem iStr : (Tryd.prog.info? 9).map (fun i => (i.zero, i.size, i.bytes)) = some (some (.string ⟨#[]⟩), 1, 16) := by kernel_rfl

/-- All lines' pairs. -/
def linesIs (xs : List ByteArray) (f : ByteArray → List P4) : Prop := ∀ x ∈ xs, ∃ m l v rs, LineIs x m l v rs ∧ f x = pairsOf v rs

set_option maxRecDepth 100000 in
set_option maxHeartbeats 8000000 in
theorem hX_lt {a b c d : Nat} (h1 : a < b) (h2 : c ≤ d) (h3 : c = b + 3) : a ≠ d := by omega
/-- What pairs.New gives back: a row of the call's own with the pairs, by their keys. -/
def NewOk (w : World) (G : List P4) (e : Ending) (w' : World) : Prop :=
  ∃ (T : List P4) (b cap : Nat), e = .returned (.slice (some ⟨b, 0, none⟩) T.length cap) ∧ T.Perm G ∧ T.Pairwise (fun a b => a.1 ≤ b.1) ∧ w.heap.size ≤ b ∧ b < w'.heap.size ∧ (∀ j v, (cells4 T)[j]? = some v → w'.cell? ⟨b, j, none⟩ = some v) ∧ Below w.heap.size w w'

theorem split_eq (s' s sep : ByteArray) (e : s' = s) (w : World) : Calls Tryd.prog 31 #[.string s', .string sep] w fun e w' => e = .returned (iterV w) ∧ w' = iterW w s sep := by
  subst e
  exact split _ _ _

set_option maxRecDepth 100000 in
set_option maxHeartbeats 8000000 in
theorem new (xs ys : List ByteArray) (f : ByteArray → List P4) (hx : Splits 10 textS xs) (hsz : textS.size < 4611686018427387904) (hxs : linesIs xs f) (hlx : (xs.flatMap f).length ≤ 100000) (g : ByteArray → P4) (hy : Splits 44 aloneS ys) (hszy : aloneS.size < 4611686018427387904) (hys : wordsIs ys g) (hly : ys.length ≤ 1000) (hbd : ∀ p ∈ xs.flatMap f ++ ys.map g, 0 ≤ p.1 ∧ p.1 ≤ 1114111) (hne : 1 ≤ ys.length) (w : World) (hTabs : TabsN w) :
    Calls Tryd.prog 27 #[] w (NewOk w (xs.flatMap f ++ ys.map g)) := by
  refine (callsIn_wide (n := 3)).1 ?_
  refine callsIn_of_wp_marks Tryd.func27 rfl trivial ?_ rfl
  simp only [Tryd.ntmps27, List.size_toArray, List.length_cons, List.length_nil, Nat.reduceAdd, Nat.reduceSub, Array.replicate_succ, Array.replicate_zero, List.push_toArray, List.append_toArray, List.nil_append, List.cons_append]
  gi_wp2_with (refine ⟨trivial, ?_⟩; gi_at_call 31; refine (callsIn_wide.2 (split_eq _ textS ⟨#[10]⟩ (by kernel_rfl) _)).mono ?_; rintro e w' ⟨rfl, rfl⟩; dsimp only [iterV])
  obtain ⟨w0, hw0⟩ : ∃ w0, w0 = w.alloc (.cells #[Value.slice none 0 0] 39) := ⟨_, rfl⟩
  have s0 : w0.heap.size = w.heap.size + 1 := by rw [hw0]; simp
  have b0 : Boxed w0 w.heap.size 39 (.slice none 0 0) := by rw [hw0]; exact Boxed.new w _ _
  have w0b : Below w.heap.size w w0 := by rw [hw0]; exact (Below.refl _ w).alloc (Nat.le_refl _) _
  rw [← hw0]
  clear hw0
  have hsplit := iter_split 10 textS xs hx hsz w0
  generalize textS = text at *
  have eS : (iterW w0 text ⟨#[10]⟩).heap.size = w.heap.size + 4 := by rw [iterW_size, s0]
  have hbs := iterW_below w0 text ⟨#[10]⟩
  have o0 : OutIs (iterW w0 text ⟨#[10]⟩) w.heap.size (w.heap.size + 4) [w.heap.size + 5] [] := ⟨_, (hbs.block _ (by omega)).trans b0, World.ownsRow_nil _ _ _ _, by simp [Value.ownBlock]⟩
  have hbw : Below w.heap.size w (iterW w0 text ⟨#[10]⟩) := w0b.trans (hbs.mono (by omega))
  rw [s0] at hsplit ⊢
  generalize iterW w0 text ⟨#[10]⟩ = W at *
  refine wpIn_range (b := w.heap.size + 1) rfl (enters_of Tryd.func51 (by kernel_rfl) rfl) (by omega) hsplit (fun h k j hj => (k j hj).trans (h j hj)) (fun X l o hl j hj => World.putObj_heap_other (by simp at hj; omega))
    (fun pre X => Below w.heap.size w X ∧ w.heap.size + 4 ≤ X.heap.size ∧ OutIs X w.heap.size (w.heap.size + 4) [w.heap.size + 5] (pre.flatMap f)) (fun _ _ => False)
    ?_ ?_ ?_ ?_ ?_ ⟨hbw, by omega, o0⟩
    (fun x => { tmps := #[.slice none 0 0, .pointer (some ⟨w.heap.size, 0, none⟩), .string x, undef, undef, undef, undef, undef, undef, undef, .func (.func 51) #[] #[.pointer (some ⟨w.heap.size + 1 + 1, 0, none⟩), .pointer (some ⟨w.heap.size + 1, 0, none⟩), .pointer (some ⟨w.heap.size + 1 + 2, 0, none⟩)], .string x, undef, undef, undef, undef, undef, undef, undef, undef, undef, undef, undef, undef, undef, undef, undef, undef, undef, undef, undef, undef, undef, undef, undef, undef, undef, undef, undef, undef, undef, undef, undef, undef, undef, undef, undef, undef, undef, undef, undef, undef, undef, undef, undef, undef, undef, undef, undef, undef, undef, undef, undef, undef, undef, undef, undef], defers := [] })
    ?assign ?body ?done ?stop
  case assign =>
    intro l x X K hK
    gi_wp2
    exact hK
  case body =>
    rintro l pre x X ⟨hbX, hXs, hout⟩ hX6 ⟨q, hq⟩
    obtain ⟨m, ll, v, rs, hL, hf⟩ := hxs x (by rw [hq]; simp)
    obtain ⟨i0, hi0, hi1, hm, hl⟩ := hL.cut
    have cC := fun Y => cut2 32 x i0 hi0 hi1 (by have := hL.size; omega) Y
    rw [hm, hl] at cC
    have hcn := convRunes ll rs hL.runes hL.len
    have cN := fun Y => number m v hL.hv hL.m1 hL.m2 hL.vb Y
    gi_wp2_with (first
      | (refine ⟨trivial, ?_⟩; gi_at_call 32; refine (CallsIn.inRound l (callsIn_wide.2 (cC _))).mono ?_; rintro e X1 ⟨rfl, n1, rfl⟩; obtain ⟨cap, X2, hcv, hb2, hlt2, hrow⟩ := hcn (X.drewN n1)))
    have hXX : Below X.heap.size X X2 := ⟨hb2.os, hb2.tape, hb2.output, hb2.size, hb2.block⟩
    have hout2 := (hout.shun (Nat.le_refl _)).kept (grown_none hXX)
    have hrow2 : ∀ j x, rs[j]? = some x → X2.cell? ⟨X.heap.size, j, none⟩ = some (.int .i32 x) := hrow
    have hlt3 : X.heap.size < X2.heap.size := hlt2
    have hlen := hL.len
    clear hb2 hlt2 hrow hcn cC hcv
    gi_loopw [7] (fun vi wr => ∃ k : Nat, vi = .int .i64 (2 * (k : Int)) ∧ 2 * k ≤ rs.length ∧ Touch w.heap.size (w.heap.size + 4) [w.heap.size + 5, X.heap.size] X2 wr ∧
        OutIs wr w.heap.size (w.heap.size + 4) [w.heap.size + 5, X.heap.size] (pre.flatMap f ++ (pairsOf v rs).take k))
      (fun vi _ => rs.length + 1 - (intOf vi).toNat)
    case atStart => exact ⟨0, rfl, by omega, Touch.refl _ _ _ _, by simpa using hout2⟩
    obtain ⟨k, rfl, hk, hto, hou⟩ := hrel
    by_cases hkn : 2 * k + 1 < rs.length
    · have hkz : 2 * (k : Int) + 1 < (rs.length : Int) := by omega
      obtain ⟨x1, hx1⟩ : ∃ x1, rs[2 * k + 1]? = some x1 := ⟨_, List.getElem?_eq_getElem hkn⟩
      obtain ⟨y1, hy1⟩ : ∃ y1, rs[2 * k]? = some y1 := ⟨_, List.getElem?_eq_getElem (by omega)⟩
      obtain ⟨v0, hB, hown, hav⟩ := hou
      obtain ⟨ps, hps⟩ : ∃ ps, ps = List.flatMap f pre ++ List.take k (pairsOf v rs) := ⟨_, rfl⟩
      rw [← hps] at hown
      have hcell5 : ∀ wz, Touch w.heap.size (w.heap.size + 4) [w.heap.size + 5, X.heap.size] wr wz → wz.cell? ⟨X.heap.size, (2 * (k : Int) + 1).toNat, none⟩ = some (.int .i32 x1) := fun wz hT =>
        (hto.trans hT).cell (by omega) (by simp) (hrow2 _ _ (by rw [show (2 * (k : Int) + 1).toNat = 2 * k + 1 by omega]; exact hx1))
      have hcell9 : ∀ wz, Touch w.heap.size (w.heap.size + 4) [w.heap.size + 5, X.heap.size] wr wz → wz.cell? ⟨X.heap.size, (2 * (k : Int)).toNat, none⟩ = some (.int .i32 y1) := fun wz hT =>
        (hto.trans hT).cell (by omega) (by simp) (hrow2 _ _ (by rw [show (2 * (k : Int)).toNat = 2 * k by omega]; exact hy1))
      have hwr : IntKind.i64.wrap (2 * (k : Int) + 1) = 2 * (k : Int) + 1 := by
        rw [IntKind.wrap_i64]
        omega
      have hb0 : (0 : Int) ≤ 2 * (k : Int) := by omega
      have hb1 : 2 * (k : Int) < (rs.length : Int) := by omega
      have hpl : ps.length ≤ 100000 := by
        have e1 : (xs.flatMap f).length = (pre.flatMap f).length + ((f x).length + (q.flatMap f).length) := by rw [hq]; simp
        have e2 : ps.length ≤ (pre.flatMap f).length + (f x).length := by
          rw [hps, hf, List.length_append, List.length_take]
          omega
        omega
      have HPS : Aside (ps = List.flatMap f pre ++ List.take k (pairsOf v rs)) := hps
      clear hps
      obtain ⟨i63, hi63, hz63, hs63, hy63⟩ := info_parts iPair
      gi_wp2
      refine Reg.region [[], [], [], [2], [1, 3], [4], [], [], [6, 7], [8], [], [10], [5, 9, 11], [12], [0, 13, 11], [14, 14, 0, 1, 2, 3, 4, 5, 6, 7, 8, 9, 10, 11, 12, 13, 14]]
        (fun listed a wz => ∃ (b0 b1 b2 b3 b4 b5 b6 b7 b8 b9 b10 b11 b12 b13 b14 b15 : Bool) (G : Nat) (v1 : Value), listed = #[b0, b1, b2, b3, b4, b5, b6, b7, b8, b9, b10, b11, b12, b13, b14, b15] ∧ a = { tmps := List.toArray (Value.slice none 0 0 :: Value.pointer (some ⟨w.heap.size, 0, none⟩) :: Value.string x :: Value.string m :: Value.string ll :: Value.bool true :: Value.slice (some ⟨X.heap.size, 0, none⟩) rs.length cap :: Value.int .i64 (2 * (k : Int)) :: undef :: undef :: Value.func (.func 51) #[] #[.pointer (some ⟨w.heap.size + 1 + 1, 0, none⟩), .pointer (some ⟨w.heap.size + 1, 0, none⟩), .pointer (some ⟨w.heap.size + 1 + 2, 0, none⟩)] :: Value.string x :: Value.tuple #[.string m, .string ll, .bool true] :: Value.string x :: Value.tuple #[.string m, .string ll, .bool true] :: Value.string m :: Value.string ll :: Value.bool true :: Value.string ll :: Value.slice (some ⟨X.heap.size, 0, none⟩) rs.length cap :: Value.int .i64 (2 * (k : Int)) :: Value.int .i64 (2 * (k : Int) + 1) :: Value.slice (some ⟨X.heap.size, 0, none⟩) rs.length cap :: Value.int .i64 rs.length :: Value.bool true :: u25 :: u26 :: (if b0 = true then v0 else u27) :: (if b1 = true then Value.slice (some ⟨X.heap.size, 0, none⟩) rs.length cap else u28) :: (if b2 = true then Value.int .i64 (2 * (k : Int)) else u29) :: (if b3 = true then Value.int .i64 (2 * (k : Int) + 1) else u30) :: (if b4 = true then Value.pointer (some ⟨X.heap.size, (2 * (k : Int) + 1).toNat, none⟩) else u31) :: (if b5 = true then Value.int .i32 x1 else u32) :: (if b6 = true then Value.slice (some ⟨X.heap.size, 0, none⟩) rs.length cap else u33) :: (if b7 = true then Value.int .i64 (2 * (k : Int)) else u34) :: (if b8 = true then Value.pointer (some ⟨X.heap.size, (2 * (k : Int)).toNat, none⟩) else u35) :: (if b9 = true then Value.int .i32 y1 else u36) :: (if b10 = true then Value.string m else u37) :: (if b11 = true then Value.int .i32 (v : Int) else u38) :: (if b12 = true then Value.agg #[.int .i32 x1, .int .i32 y1, .int .i32 (v : Int), .bool true] else u39) :: (if b13 = true then Value.slice (some ⟨G, 0, none⟩) 1 1 else u40) :: (if b14 = true then v1 else u41) :: undef :: undef :: undef :: undef :: undef :: undef :: undef :: undef :: undef :: undef :: undef :: undef :: undef :: undef :: undef :: undef :: undef :: undef :: undef :: undef :: undef :: undef :: undef :: undef :: undef :: []), defers := [] } ∧
          (b12 = true → b5 = true ∧ b9 = true ∧ b11 = true) ∧ (b13 = true → b12 = true) ∧ (b14 = true → b0 = true ∧ b13 = true) ∧ (b15 = true → b14 = true) ∧
          Touch w.heap.size (w.heap.size + 4) [w.heap.size + 5, X.heap.size] wr wz ∧ (b14 = false → Boxed wz w.heap.size 39 v0 ∧ wz.ownsRow (w.heap.size + 4) 59 4 v0 ps.length (cells4 ps)) ∧
          (b13 = true → b14 = false → ∀ j u, (enc4 (x1, y1, (v : Int), true))[j]? = some u → wz.cell? ((⟨G, 0, none⟩ : Addr).add j) = some u) ∧
          (b14 = true → b15 = false → (∃ v9, Boxed wz w.heap.size 39 v9) ∧ wz.ownsRow (w.heap.size + 4) 59 4 v1 (ps.length + 1) (cells4 (ps ++ [(x1, y1, (v : Int), true)])) ∧ ∀ k ∈ [w.heap.size + 5, X.heap.size], v1.ownBlock ≠ some k) ∧
          (b15 = true → OutIs wz w.heap.size (w.heap.size + 4) [w.heap.size + 5, X.heap.size] (ps ++ [(x1, y1, (v : Int), true)])))
        (by kernel_rfl) (by kernel_rfl) (by kernel_rfl) ?rstep ?rdone ?rstart
      case rstart =>
        refine ⟨false, false, false, false, false, false, false, false, false, false, false, false, false, false, false, false, 0, undef, rfl, rfl, by simp, by simp, by simp, by simp, ⟨rfl, rfl, rfl, Nat.le_refl _, fun _ _ h _ _ => h⟩, fun _ => ⟨hB, hown⟩, by simp, by simp, by simp⟩
      case rdone =>
        rintro a wz ⟨b0, b1, b2, b3, b4, b5, b6, b7, b8, b9, b10, b11, b12, b13, b14, b15, G, v1, hl0, rfl, c12, c13, c14, c15, hT, hw1, hw2, hw3, hw4⟩
        have hl1 : #[b0, b1, b2, b3, b4, b5, b6, b7, b8, b9, b10, b11, b12, b13, b14, b15] = Array.replicate 16 true := hl0.symm
        simp only [Array.replicate_succ, Array.replicate_zero, List.push_toArray, List.nil_append, List.cons_append, Array.mk.injEq, List.cons.injEq, and_true] at hl1
        obtain ⟨rfl, rfl, rfl, rfl, rfl, rfl, rfl, rfl, rfl, rfl, rfl, rfl, rfl, rfl, rfl, rfl⟩ := hl1
        have hnew := hw4 rfl
        clear c12 c13 c14 c15 hw1 hw2 hw3 hw4 hl0
        simp only [if_true]
        gi_wp2
        refine ⟨⟨k + 1, by congr 1, by omega, hto.trans hT, ?_⟩, by simp [intOf]; omega⟩
        have hps := HPS.out
        have e1 : List.take (k + 1) (pairsOf (v : Int) rs) = List.take k (pairsOf (v : Int) rs) ++ [(x1, y1, (v : Int), true)] := by
          rw [List.take_add_one, pairsOf_at (v : Int) rs k x1 y1 hy1 hx1]
          rfl
        rw [e1, ← List.append_assoc, ← hps]
        exact hnew
      case rstep =>
        rintro listed a wz i ⟨b0, b1, b2, b3, b4, b5, b6, b7, b8, b9, b10, b11, b12, b13, b14, b15, G, v1, rfl, rfl, c12, c13, c14, c15, hT, hw1, hw2, hw3, hw4⟩ hi hfalse hdep
        have hi16 : i < 16 := hi
        clear hi
        obtain rfl | rfl | rfl | rfl | rfl | rfl | rfl | rfl | rfl | rfl | rfl | rfl | rfl | rfl | rfl | rfl : i = 0 ∨ i = 1 ∨ i = 2 ∨ i = 3 ∨ i = 4 ∨ i = 5 ∨ i = 6 ∨ i = 7 ∨ i = 8 ∨ i = 9 ∨ i = 10 ∨ i = 11 ∨ i = 12 ∨ i = 13 ∨ i = 14 ∨ i = 15 := by omega
        · skip
          obtain rfl : b0 = false := by simpa using hfalse
          have h14 : b14 = false := by
            cases b14 with
            | false => rfl
            | true => cases (c14 rfl).1
          subst h14
          have h15 : b15 = false := by
            cases b15 with
            | false => rfl
            | true => cases c15 rfl
          subst h15
          have e0 := (hw1 rfl).1.cell
          refine wpOpIn_step rfl (fun K hK => ?_)
          go_simp
          exact hK _ _ ⟨true, _, _, _, _, _, _, _, _, _, _, _, _, _, _, _, G, v1, rfl, rfl, (by first | exact c12 | (intro h; cases h; done) | (intro _; exact ⟨rfl, rfl, rfl⟩) | (intro _; exact ⟨rfl, rfl⟩) | (intro _; rfl)), (by first | exact c13 | (intro h; cases h; done) | (intro _; exact ⟨rfl, rfl, rfl⟩) | (intro _; exact ⟨rfl, rfl⟩) | (intro _; rfl)), (by first | exact c14 | (intro h; cases h; done) | (intro _; exact ⟨rfl, rfl, rfl⟩) | (intro _; exact ⟨rfl, rfl⟩) | (intro _; rfl)), (by first | exact c15 | (intro h; cases h; done) | (intro _; exact ⟨rfl, rfl, rfl⟩) | (intro _; exact ⟨rfl, rfl⟩) | (intro _; rfl)), hT, hw1, hw2, hw3, hw4⟩
        · skip
          obtain rfl : b1 = false := by simpa using hfalse
          refine wpOpIn_step rfl (fun K hK => ?_)
          go_simp
          exact hK _ _ ⟨_, true, _, _, _, _, _, _, _, _, _, _, _, _, _, _, G, v1, rfl, rfl, (by first | exact c12 | (intro h; cases h; done) | (intro _; exact ⟨rfl, rfl, rfl⟩) | (intro _; exact ⟨rfl, rfl⟩) | (intro _; rfl)), (by first | exact c13 | (intro h; cases h; done) | (intro _; exact ⟨rfl, rfl, rfl⟩) | (intro _; exact ⟨rfl, rfl⟩) | (intro _; rfl)), (by first | exact c14 | (intro h; cases h; done) | (intro _; exact ⟨rfl, rfl, rfl⟩) | (intro _; exact ⟨rfl, rfl⟩) | (intro _; rfl)), (by first | exact c15 | (intro h; cases h; done) | (intro _; exact ⟨rfl, rfl, rfl⟩) | (intro _; exact ⟨rfl, rfl⟩) | (intro _; rfl)), hT, hw1, hw2, hw3, hw4⟩
        · skip
          obtain rfl : b2 = false := by simpa using hfalse
          refine wpOpIn_step rfl (fun K hK => ?_)
          go_simp
          exact hK _ _ ⟨_, _, true, _, _, _, _, _, _, _, _, _, _, _, _, _, G, v1, rfl, rfl, (by first | exact c12 | (intro h; cases h; done) | (intro _; exact ⟨rfl, rfl, rfl⟩) | (intro _; exact ⟨rfl, rfl⟩) | (intro _; rfl)), (by first | exact c13 | (intro h; cases h; done) | (intro _; exact ⟨rfl, rfl, rfl⟩) | (intro _; exact ⟨rfl, rfl⟩) | (intro _; rfl)), (by first | exact c14 | (intro h; cases h; done) | (intro _; exact ⟨rfl, rfl, rfl⟩) | (intro _; exact ⟨rfl, rfl⟩) | (intro _; rfl)), (by first | exact c15 | (intro h; cases h; done) | (intro _; exact ⟨rfl, rfl, rfl⟩) | (intro _; exact ⟨rfl, rfl⟩) | (intro _; rfl)), hT, hw1, hw2, hw3, hw4⟩
        · skip
          obtain rfl : b3 = false := by simpa using hfalse
          obtain rfl : b2 = true := by simpa using hdep 2 (by decide)
          refine wpOpIn_step rfl (fun K hK => ?_)
          go_simp
          exact hK _ _ ⟨_, _, _, true, _, _, _, _, _, _, _, _, _, _, _, _, G, v1, rfl, rfl, (by first | exact c12 | (intro h; cases h; done) | (intro _; exact ⟨rfl, rfl, rfl⟩) | (intro _; exact ⟨rfl, rfl⟩) | (intro _; rfl)), (by first | exact c13 | (intro h; cases h; done) | (intro _; exact ⟨rfl, rfl, rfl⟩) | (intro _; exact ⟨rfl, rfl⟩) | (intro _; rfl)), (by first | exact c14 | (intro h; cases h; done) | (intro _; exact ⟨rfl, rfl, rfl⟩) | (intro _; exact ⟨rfl, rfl⟩) | (intro _; rfl)), (by first | exact c15 | (intro h; cases h; done) | (intro _; exact ⟨rfl, rfl, rfl⟩) | (intro _; exact ⟨rfl, rfl⟩) | (intro _; rfl)), hT, hw1, hw2, hw3, hw4⟩
        · skip
          obtain rfl : b4 = false := by simpa using hfalse
          obtain rfl : b1 = true := by simpa using hdep 1 (by decide)
          obtain rfl : b3 = true := by simpa using hdep 3 (by decide)
          refine wpOpIn_step rfl (fun K hK => ?_)
          go_simp
          exact hK _ _ ⟨_, _, _, _, true, _, _, _, _, _, _, _, _, _, _, _, G, v1, rfl, rfl, (by first | exact c12 | (intro h; cases h; done) | (intro _; exact ⟨rfl, rfl, rfl⟩) | (intro _; exact ⟨rfl, rfl⟩) | (intro _; rfl)), (by first | exact c13 | (intro h; cases h; done) | (intro _; exact ⟨rfl, rfl, rfl⟩) | (intro _; exact ⟨rfl, rfl⟩) | (intro _; rfl)), (by first | exact c14 | (intro h; cases h; done) | (intro _; exact ⟨rfl, rfl, rfl⟩) | (intro _; exact ⟨rfl, rfl⟩) | (intro _; rfl)), (by first | exact c15 | (intro h; cases h; done) | (intro _; exact ⟨rfl, rfl, rfl⟩) | (intro _; exact ⟨rfl, rfl⟩) | (intro _; rfl)), hT, hw1, hw2, hw3, hw4⟩
        · skip
          obtain rfl : b5 = false := by simpa using hfalse
          obtain rfl : b4 = true := by simpa using hdep 4 (by decide)
          have h12 : b12 = false := by
            cases b12 with
            | false => rfl
            | true => cases (c12 rfl).1
          subst h12
          have h13 : b13 = false := by
            cases b13 with
            | false => rfl
            | true => cases c13 rfl
          subst h13
          have h14 : b14 = false := by
            cases b14 with
            | false => rfl
            | true => cases (c14 rfl).2
          subst h14
          have h15 : b15 = false := by
            cases b15 with
            | false => rfl
            | true => cases c15 rfl
          subst h15
          have e0 := hcell5 wz hT
          refine wpOpIn_step rfl (fun K hK => ?_)
          go_simp
          exact hK _ _ ⟨_, _, _, _, _, true, _, _, _, _, _, _, _, _, _, _, G, v1, rfl, rfl, (by first | exact c12 | (intro h; cases h; done) | (intro _; exact ⟨rfl, rfl, rfl⟩) | (intro _; exact ⟨rfl, rfl⟩) | (intro _; rfl)), (by first | exact c13 | (intro h; cases h; done) | (intro _; exact ⟨rfl, rfl, rfl⟩) | (intro _; exact ⟨rfl, rfl⟩) | (intro _; rfl)), (by first | exact c14 | (intro h; cases h; done) | (intro _; exact ⟨rfl, rfl, rfl⟩) | (intro _; exact ⟨rfl, rfl⟩) | (intro _; rfl)), (by first | exact c15 | (intro h; cases h; done) | (intro _; exact ⟨rfl, rfl, rfl⟩) | (intro _; exact ⟨rfl, rfl⟩) | (intro _; rfl)), hT, hw1, hw2, hw3, hw4⟩
        · skip
          obtain rfl : b6 = false := by simpa using hfalse
          refine wpOpIn_step rfl (fun K hK => ?_)
          go_simp
          exact hK _ _ ⟨_, _, _, _, _, _, true, _, _, _, _, _, _, _, _, _, G, v1, rfl, rfl, (by first | exact c12 | (intro h; cases h; done) | (intro _; exact ⟨rfl, rfl, rfl⟩) | (intro _; exact ⟨rfl, rfl⟩) | (intro _; rfl)), (by first | exact c13 | (intro h; cases h; done) | (intro _; exact ⟨rfl, rfl, rfl⟩) | (intro _; exact ⟨rfl, rfl⟩) | (intro _; rfl)), (by first | exact c14 | (intro h; cases h; done) | (intro _; exact ⟨rfl, rfl, rfl⟩) | (intro _; exact ⟨rfl, rfl⟩) | (intro _; rfl)), (by first | exact c15 | (intro h; cases h; done) | (intro _; exact ⟨rfl, rfl, rfl⟩) | (intro _; exact ⟨rfl, rfl⟩) | (intro _; rfl)), hT, hw1, hw2, hw3, hw4⟩
        · skip
          obtain rfl : b7 = false := by simpa using hfalse
          refine wpOpIn_step rfl (fun K hK => ?_)
          go_simp
          exact hK _ _ ⟨_, _, _, _, _, _, _, true, _, _, _, _, _, _, _, _, G, v1, rfl, rfl, (by first | exact c12 | (intro h; cases h; done) | (intro _; exact ⟨rfl, rfl, rfl⟩) | (intro _; exact ⟨rfl, rfl⟩) | (intro _; rfl)), (by first | exact c13 | (intro h; cases h; done) | (intro _; exact ⟨rfl, rfl, rfl⟩) | (intro _; exact ⟨rfl, rfl⟩) | (intro _; rfl)), (by first | exact c14 | (intro h; cases h; done) | (intro _; exact ⟨rfl, rfl, rfl⟩) | (intro _; exact ⟨rfl, rfl⟩) | (intro _; rfl)), (by first | exact c15 | (intro h; cases h; done) | (intro _; exact ⟨rfl, rfl, rfl⟩) | (intro _; exact ⟨rfl, rfl⟩) | (intro _; rfl)), hT, hw1, hw2, hw3, hw4⟩
        · skip
          obtain rfl : b8 = false := by simpa using hfalse
          obtain rfl : b6 = true := by simpa using hdep 6 (by decide)
          obtain rfl : b7 = true := by simpa using hdep 7 (by decide)
          refine wpOpIn_step rfl (fun K hK => ?_)
          go_simp
          exact hK _ _ ⟨_, _, _, _, _, _, _, _, true, _, _, _, _, _, _, _, G, v1, rfl, rfl, (by first | exact c12 | (intro h; cases h; done) | (intro _; exact ⟨rfl, rfl, rfl⟩) | (intro _; exact ⟨rfl, rfl⟩) | (intro _; rfl)), (by first | exact c13 | (intro h; cases h; done) | (intro _; exact ⟨rfl, rfl, rfl⟩) | (intro _; exact ⟨rfl, rfl⟩) | (intro _; rfl)), (by first | exact c14 | (intro h; cases h; done) | (intro _; exact ⟨rfl, rfl, rfl⟩) | (intro _; exact ⟨rfl, rfl⟩) | (intro _; rfl)), (by first | exact c15 | (intro h; cases h; done) | (intro _; exact ⟨rfl, rfl, rfl⟩) | (intro _; exact ⟨rfl, rfl⟩) | (intro _; rfl)), hT, hw1, hw2, hw3, hw4⟩
        · skip
          obtain rfl : b9 = false := by simpa using hfalse
          obtain rfl : b8 = true := by simpa using hdep 8 (by decide)
          have h12 : b12 = false := by
            cases b12 with
            | false => rfl
            | true => cases (c12 rfl).2.1
          subst h12
          have h13 : b13 = false := by
            cases b13 with
            | false => rfl
            | true => cases c13 rfl
          subst h13
          have h14 : b14 = false := by
            cases b14 with
            | false => rfl
            | true => cases (c14 rfl).2
          subst h14
          have h15 : b15 = false := by
            cases b15 with
            | false => rfl
            | true => cases c15 rfl
          subst h15
          have e0 := hcell9 wz hT
          refine wpOpIn_step rfl (fun K hK => ?_)
          go_simp
          exact hK _ _ ⟨_, _, _, _, _, _, _, _, _, true, _, _, _, _, _, _, G, v1, rfl, rfl, (by first | exact c12 | (intro h; cases h; done) | (intro _; exact ⟨rfl, rfl, rfl⟩) | (intro _; exact ⟨rfl, rfl⟩) | (intro _; rfl)), (by first | exact c13 | (intro h; cases h; done) | (intro _; exact ⟨rfl, rfl, rfl⟩) | (intro _; exact ⟨rfl, rfl⟩) | (intro _; rfl)), (by first | exact c14 | (intro h; cases h; done) | (intro _; exact ⟨rfl, rfl, rfl⟩) | (intro _; exact ⟨rfl, rfl⟩) | (intro _; rfl)), (by first | exact c15 | (intro h; cases h; done) | (intro _; exact ⟨rfl, rfl, rfl⟩) | (intro _; exact ⟨rfl, rfl⟩) | (intro _; rfl)), hT, hw1, hw2, hw3, hw4⟩
        · skip
          obtain rfl : b10 = false := by simpa using hfalse
          refine wpOpIn_step rfl (fun K hK => ?_)
          go_simp
          exact hK _ _ ⟨_, _, _, _, _, _, _, _, _, _, true, _, _, _, _, _, G, v1, rfl, rfl, (by first | exact c12 | (intro h; cases h; done) | (intro _; exact ⟨rfl, rfl, rfl⟩) | (intro _; exact ⟨rfl, rfl⟩) | (intro _; rfl)), (by first | exact c13 | (intro h; cases h; done) | (intro _; exact ⟨rfl, rfl, rfl⟩) | (intro _; exact ⟨rfl, rfl⟩) | (intro _; rfl)), (by first | exact c14 | (intro h; cases h; done) | (intro _; exact ⟨rfl, rfl, rfl⟩) | (intro _; exact ⟨rfl, rfl⟩) | (intro _; rfl)), (by first | exact c15 | (intro h; cases h; done) | (intro _; exact ⟨rfl, rfl, rfl⟩) | (intro _; exact ⟨rfl, rfl⟩) | (intro _; rfl)), hT, hw1, hw2, hw3, hw4⟩
        · skip
          obtain rfl : b11 = false := by simpa using hfalse
          obtain rfl : b10 = true := by simpa using hdep 10 (by decide)
          have h12 : b12 = false := by
            cases b12 with
            | false => rfl
            | true => cases (c12 rfl).2.2
          subst h12
          have h13 : b13 = false := by
            cases b13 with
            | false => rfl
            | true => cases c13 rfl
          subst h13
          have h14 : b14 = false := by
            cases b14 with
            | false => rfl
            | true => cases (c14 rfl).2
          subst h14
          have h15 : b15 = false := by
            cases b15 with
            | false => rfl
            | true => cases c15 rfl
          subst h15
          refine wpOpIn_step rfl (fun K hK => ?_)
          go_simp
          refine ⟨by simp [Fence.wide], ?_⟩
          refine (CallsIn.inRound l (callsIn_wide.2 (cN _))).mono ?_
          rintro e X3 ⟨rfl, HB⟩
          exact hK _ _ ⟨_, _, _, _, _, _, _, _, _, _, _, true, _, _, _, _, G, v1, rfl, rfl, (by first | exact c12 | (intro h; cases h; done) | (intro _; exact ⟨rfl, rfl, rfl⟩) | (intro _; exact ⟨rfl, rfl⟩) | (intro _; rfl)), (by first | exact c13 | (intro h; cases h; done) | (intro _; exact ⟨rfl, rfl, rfl⟩) | (intro _; exact ⟨rfl, rfl⟩) | (intro _; rfl)), (by first | exact c14 | (intro h; cases h; done) | (intro _; exact ⟨rfl, rfl, rfl⟩) | (intro _; exact ⟨rfl, rfl⟩) | (intro _; rfl)), (by first | exact c15 | (intro h; cases h; done) | (intro _; exact ⟨rfl, rfl, rfl⟩) | (intro _; exact ⟨rfl, rfl⟩) | (intro _; rfl)), hT.trans (Touch.of_below HB), (fun h => ⟨((hw1 h).1.kept (grown_none HB) (by simp)), (hw1 h).2.kept (grown_none HB) (Classical.em _)⟩), (by simp), (by simp), (by simp)⟩
        · skip
          obtain rfl : b12 = false := by simpa using hfalse
          obtain rfl : b5 = true := by simpa using hdep 5 (by decide)
          obtain rfl : b9 = true := by simpa using hdep 9 (by decide)
          obtain rfl : b11 = true := by simpa using hdep 11 (by decide)
          have h13 : b13 = false := by
            cases b13 with
            | false => rfl
            | true => cases c13 rfl
          subst h13
          have h14 : b14 = false := by
            cases b14 with
            | false => rfl
            | true => cases (c14 rfl).2
          subst h14
          have h15 : b15 = false := by
            cases b15 with
            | false => rfl
            | true => cases c15 rfl
          subst h15
          refine wpOpIn_step rfl (fun K hK => ?_)
          go_simp
          exact hK _ _ ⟨_, _, _, _, _, _, _, _, _, _, _, _, true, _, _, _, G, v1, rfl, rfl, (by first | exact c12 | (intro h; cases h; done) | (intro _; exact ⟨rfl, rfl, rfl⟩) | (intro _; exact ⟨rfl, rfl⟩) | (intro _; rfl)), (by first | exact c13 | (intro h; cases h; done) | (intro _; exact ⟨rfl, rfl, rfl⟩) | (intro _; exact ⟨rfl, rfl⟩) | (intro _; rfl)), (by first | exact c14 | (intro h; cases h; done) | (intro _; exact ⟨rfl, rfl, rfl⟩) | (intro _; exact ⟨rfl, rfl⟩) | (intro _; rfl)), (by first | exact c15 | (intro h; cases h; done) | (intro _; exact ⟨rfl, rfl, rfl⟩) | (intro _; exact ⟨rfl, rfl⟩) | (intro _; rfl)), hT, hw1, hw2, hw3, hw4⟩
        · skip
          obtain rfl : b13 = false := by simpa using hfalse
          obtain rfl : b12 = true := by simpa using hdep 12 (by decide)
          have h14 : b14 = false := by
            cases b14 with
            | false => rfl
            | true => cases (c14 rfl).2
          subst h14
          have h15 : b15 = false := by
            cases b15 with
            | false => rfl
            | true => cases c15 rfl
          subst h15
          obtain ⟨e5, e9, e11⟩ := c12 rfl
          subst e5 e9 e11
          have HB : Below wz.heap.size wz (wz.alloc (.cells #[.int .i32 x1, .int .i32 y1, .int .i32 (v : Int), .bool true] 59)) := (Below.refl _ wz).alloc (Nat.le_refl _) _
          refine wpOpIn_step rfl (fun K hK => ?_)
          go_simp
          exact hK _ _ ⟨_, _, _, _, _, _, _, _, _, _, _, _, _, true, _, _, wz.heap.size, v1, rfl, rfl, (by first | exact c12 | (intro h; cases h; done) | (intro _; exact ⟨rfl, rfl, rfl⟩) | (intro _; exact ⟨rfl, rfl⟩) | (intro _; rfl)), (by first | exact c13 | (intro h; cases h; done) | (intro _; exact ⟨rfl, rfl, rfl⟩) | (intro _; exact ⟨rfl, rfl⟩) | (intro _; rfl)), (by first | exact c14 | (intro h; cases h; done) | (intro _; exact ⟨rfl, rfl, rfl⟩) | (intro _; exact ⟨rfl, rfl⟩) | (intro _; rfl)), (by first | exact c15 | (intro h; cases h; done) | (intro _; exact ⟨rfl, rfl, rfl⟩) | (intro _; exact ⟨rfl, rfl⟩) | (intro _; rfl)), hT.trans (Touch.of_below HB), (fun h => ⟨((hw1 h).1.kept (grown_none HB) (by simp)), (hw1 h).2.kept (grown_none HB) (Classical.em _)⟩), (fun _ _ => fourCells wz _ _ _ _ _), (by simp), (by simp)⟩
        · skip
          obtain rfl : b14 = false := by simpa using hfalse
          obtain rfl : b0 = true := by simpa using hdep 0 (by decide)
          obtain rfl : b11 = true := by simpa using hdep 11 (by decide)
          obtain rfl : b13 = true := by simpa using hdep 13 (by decide)
          have h15 : b15 = false := by
            cases b15 with
            | false => rfl
            | true => cases c15 rfl
          subst h15
          obtain ⟨hB1, hO1⟩ := hw1 rfl
          have hG := hw2 rfl rfl
          refine wpOpIn_append rfl rfl (.tmp 27) (.tmp 40) 39 rfl (w.heap.size + 4) 59 i63 _ 4 16 (by kernel_rfl) hi63 hz63 hs63 hy63 rfl (by decide) v0 ps.length _ rfl hO1 ⟨G, 0, none⟩ 1 1 _ rfl rfl hG (by intro u hu; simp [enc4] at hu; rcases hu with rfl | rfl | rfl | rfl <;> rfl) (by unfold maxLen; omega) (by omega) (by have := hT.size; have := hto.size; have := hXX.size; omega) ?_
          intro v' w' h2 h3 h4 h5
          have hT2 : Touch w.heap.size (w.heap.size + 4) [w.heap.size + 5, X.heap.size] wz w' := touch_append hO1 hav h3
          have hnew : ∀ j ∈ [w.heap.size + 5, X.heap.size], v'.ownBlock ≠ some j := fun j hj => by
            rcases h5 with h5 | h5
            · rw [h5]; exact hav j hj
            · rw [h5]
              have q1 := hT.size; have q2 := hto.size
              intro e
              simp at e hj
              omega
          exact ⟨_, _, _, _, _, _, _, _, _, _, _, _, _, _, true, _, G, v', rfl, rfl, (by first | exact c12 | (intro _; exact ⟨rfl, rfl, rfl⟩)), (by first | exact c13 | (intro _; rfl)), (fun _ => ⟨rfl, rfl⟩), (fun h => by cases h), hT.trans hT2, (fun h => by cases h), (fun _ h => by cases h),
            (fun _ _ => ⟨⟨_, hB1.kept h3 (boxNe hB1 hO1)⟩, by rw [cells4_snoc]; exact h2, hnew⟩), (fun h => by cases h)⟩
        · skip
          obtain rfl : b15 = false := by simpa using hfalse
          obtain rfl : b0 = true := by simpa using hdep 0 (by decide)
          obtain rfl : b1 = true := by simpa using hdep 1 (by decide)
          obtain rfl : b2 = true := by simpa using hdep 2 (by decide)
          obtain rfl : b3 = true := by simpa using hdep 3 (by decide)
          obtain rfl : b4 = true := by simpa using hdep 4 (by decide)
          obtain rfl : b5 = true := by simpa using hdep 5 (by decide)
          obtain rfl : b6 = true := by simpa using hdep 6 (by decide)
          obtain rfl : b7 = true := by simpa using hdep 7 (by decide)
          obtain rfl : b8 = true := by simpa using hdep 8 (by decide)
          obtain rfl : b9 = true := by simpa using hdep 9 (by decide)
          obtain rfl : b10 = true := by simpa using hdep 10 (by decide)
          obtain rfl : b11 = true := by simpa using hdep 11 (by decide)
          obtain rfl : b12 = true := by simpa using hdep 12 (by decide)
          obtain rfl : b13 = true := by simpa using hdep 13 (by decide)
          obtain rfl : b14 = true := by simpa using hdep 14 (by decide)
          obtain ⟨⟨v9, hB9⟩, hO9, hav9⟩ := hw3 rfl rfl
          obtain ⟨g9, cp9, ev⟩ : ∃ g9 cp9, v1 = .slice (some ⟨g9, 0, none⟩) (ps.length + 1) cp9 := by
            rcases hO9.2 with ⟨_, h⟩ | ⟨g9, cp9, _, h, _⟩
            · omega
            · exact ⟨g9, cp9, h⟩
          subst ev
          have e0 := hB9.cell
          have e1 := hB9.frozen
          refine wpOpIn_step rfl (fun K hK => ?_)
          go_simp
          refine hK _ _ ⟨_, _, _, _, _, _, _, _, _, _, _, _, _, _, _, true, G, _, rfl, rfl, (fun _ => ⟨rfl, rfl, rfl⟩), (fun _ => rfl), (fun _ => ⟨rfl, rfl⟩), (fun _ => rfl), hT.trans (Touch.store wz _), (fun h => by cases h), (fun _ h => by cases h), (fun _ h => by cases h), fun _ => ?_⟩
          refine ⟨_, hB9.set _, ?_, hav9⟩
          rw [List.length_append]
          exact hO9.kept (grownBy_setCell' wz w.heap.size _) (.inr fun e => absurd e.symm (boxNe hB9 hO9))
    · have hkz : ¬ (2 * (k : Int) + 1 < (rs.length : Int)) := by omega
      gi_wp2
      have hall : List.take k (pairsOf (v : Int) rs) = pairsOf (v : Int) rs := List.take_of_length_le (by rw [pairsOf_length]; omega)
      rw [hall, ← hf] at hou
      have hbB : ∀ o, X2.heap[w.heap.size]? = some o → o.isCells = true := fun o ho => by
        obtain ⟨v9, hB9, _, _⟩ := hout2
        rw [Boxed] at hB9
        rw [hB9] at ho
        cases ho
        rfl
      refine ⟨(others_of_below hXX).trans (hto.others hbB), fun j hj => ?_, hto.below (hbX.trans (hXX.mono hbX.size)) (Nat.le_refl _) (by omega), by have := hto.size; have := hXX.size; omega, ?_⟩
      · have hjl : j < X.heap.size ∧ j ≠ w.heap.size ∧ j < w.heap.size + 4 := by
          simp at hj
          omega
        obtain ⟨o, ho⟩ : ∃ o, X.heap[j]? = some o := ⟨_, Array.getElem?_eq_getElem hjl.1⟩
        exact (hto.block j o ((hXX.block j hjl.1).trans ho) hjl.2.1 (.inl hjl.2.2)).trans ho.symm
      · rw [List.flatMap_append]
        simpa using hou.less (by simp)
  case done =>
    intro D X hD ⟨hbX, hXs, hout⟩ hK
    gi_wp2_with (refine ⟨trivial, ?_⟩; gi_at_call 31; refine (callsIn_wide.2 (split_eq _ aloneS ⟨#[44]⟩ (by kernel_rfl) _)).mono ?_; rintro e w' ⟨rfl, rfl⟩; dsimp only [iterV])
    have hsplit2 := iter_split 44 aloneS ys hy hszy X
    generalize aloneS = alone at *
    have eX : (iterW X alone ⟨#[44]⟩).heap.size = X.heap.size + 3 := iterW_size _ _ _
    have hbs2 := iterW_below X alone ⟨#[44]⟩
    have hD2 : D < X.heap.size := (Array.getElem?_eq_some_iff.1 hK).1
    have hK2 : (iterW X alone ⟨#[44]⟩).heap[D]? = some (.deferred (some [])) := (hbs2.block D hD2).trans hK
    have o2 : OutIs (iterW X alone ⟨#[44]⟩) w.heap.size (w.heap.size + 4) [X.heap.size, X.heap.size + 1, X.heap.size + 2, X.heap.size + 4] (xs.flatMap f) :=
      (hout.shunAll (by intro k hk; simp at hk; omega)).kept (grown_none hbs2)
    have hbw2 : Below w.heap.size w (iterW X alone ⟨#[44]⟩) := hbX.trans (hbs2.mono hbX.size)
    clear hsplit hbs o0 hbw hout hK
    generalize iterW X alone ⟨#[44]⟩ = Z at *
    refine wpIn_range (b := X.heap.size) rfl (enters_of Tryd.func51 (by kernel_rfl) rfl) (by omega) hsplit2 (fun h k j hj => (k j hj).trans (h j hj)) (fun X l o hl j hj => World.putObj_heap_other (by simp at hj; omega))
      (fun pre Y => Below w.heap.size w Y ∧ X.heap.size + 3 ≤ Y.heap.size ∧ Y.heap[D]? = some (.deferred (some [])) ∧ OutIs Y w.heap.size (w.heap.size + 4) [X.heap.size, X.heap.size + 1, X.heap.size + 2, X.heap.size + 4] (xs.flatMap f ++ pre.map g)) (fun _ _ => False)
      ?_ ?_ ?_ ?_ ?_ ⟨hbw2, by omega, hK2, by simpa using o2⟩
      (fun y => { tmps := List.toArray (Value.slice none 0 0 :: Value.pointer (some ⟨w.heap.size, 0, none⟩) :: undef :: undef :: undef :: undef :: undef :: undef :: Value.string y :: undef :: Value.func (.func 51) #[] #[.pointer (some ⟨w.heap.size + 1 + 1, 0, none⟩), .pointer (some ⟨w.heap.size + 1, 0, none⟩), .pointer (some ⟨w.heap.size + 1 + 2, 0, none⟩)] :: undef :: undef :: undef :: undef :: undef :: undef :: undef :: undef :: undef :: undef :: undef :: undef :: undef :: undef :: undef :: undef :: undef :: undef :: undef :: undef :: undef :: undef :: undef :: undef :: undef :: undef :: undef :: undef :: undef :: undef :: undef :: Value.func (.func 51) #[] #[.pointer (some ⟨X.heap.size + 1, 0, none⟩), .pointer (some ⟨X.heap.size, 0, none⟩), .pointer (some ⟨X.heap.size + 2, 0, none⟩)] :: Value.string y :: undef :: undef :: undef :: undef :: undef :: undef :: undef :: undef :: undef :: undef :: undef :: undef :: undef :: undef :: undef :: undef :: undef :: undef :: undef :: undef :: undef :: undef :: undef :: []), defers := [] })
      ?assign2 ?body2 ?done2 ?stop2
    case assign2 =>
      intro l y Y K hK
      gi_wp2
      exact hK
    case body2 =>
      rintro l pre y Y ⟨hbY, hYs, hDY, hout⟩ hY6 ⟨q, hq⟩
      obtain ⟨fw, s0', s1, s2, a, b, c, hW, hg⟩ := hys y (by rw [hq]; simp)
      have hTY := hTabs.below hbY
      have cF := FF.fields y Y hW.size hTY.asc hTY.white
      rw [hW.fz] at cF
      have hfl := hW.len
      obtain ⟨i9, hi9, hz9, hs9, hy9⟩ := info_parts iStr
      gi_wp2_with (first
        | (refine ⟨trivial, ?_⟩; gi_at_call 34; refine (CallsIn.inRound l (callsIn_wide.2 cF)).mono ?_; rintro e Y1 ⟨A, rfl, hA, hrow, hb1⟩)
        | (gi_at_builtin; refine wpListIn_append_own _ rfl (.tmp 45) (.tmp 46) 60 rfl Y.heap.size 9 i9 (.string ⟨#[]⟩) 1 16 (by kernel_rfl) hi9 hz9 hs9 hy9 rfl (by decide) (.slice (some ⟨A, 0, none⟩) fw.length fw.length) fw.length _ rfl (hrow.alloc _) ⟨Y1.heap.size, 0, none⟩ 1 1 [.string ⟨#[48]⟩] rfl rfl (cell_one_new _ _ _) (by simp [Value.oneCell']) (by unfold maxLen; omega) (by omega) (by have := hb1.size; simp; omega) ?_; intro v2 Y2 hrow2 hgr2 hnil2))
      -- REG13
      have hbY2 : Below Y.heap.size Y Y2 := ((hb1.alloc hb1.size _).grown hgr2 (by have := hb1.size; simp; omega) (fun k hk => by simp [Value.ownBlock] at hk; omega))
      obtain ⟨g2, c2, ev⟩ : ∃ g2 c2, v2 = .slice (some ⟨g2, 0, none⟩) (fw.length + 1) c2 := by
        rcases hrow2.2 with ⟨_, h⟩ | ⟨g9, cp9, _, h, _⟩
        · omega
        · exact ⟨g9, cp9, h⟩
      subst ev
      have hg2 := hrow2.lt g2 rfl
      have hws : ∀ (j : Nat) (s : ByteArray), (fw ++ [⟨#[48]⟩])[j]? = some s → Y2.cell? ⟨g2, j, none⟩ = some (.string s) := fun j s hj => by
        have hl := (List.getElem?_eq_some_iff.1 hj).1
        have hh := hrow2.cellAt j (by simp at hl ⊢; omega)
        rw [hh]
        have e : fw.map Value.string ++ [Value.string ⟨#[48]⟩] = (fw ++ [(⟨#[48]⟩ : ByteArray)]).map Value.string := by simp
        rw [e, List.getElem?_map, hj]
        rfl
      have hout2 := (hout.shun hg2.1).kept (grown_none hbY2)
      have hcell3 : ∀ wz, Touch w.heap.size (w.heap.size + 4) [X.heap.size, X.heap.size + 1, X.heap.size + 2, X.heap.size + 4, g2] Y2 wz → wz.cell? ⟨g2, 0, none⟩ = some (.string s0') := fun wz hT => hT.cell (by omega) (by simp) (hws 0 _ hW.w0)
      have hcell7 : ∀ wz, Touch w.heap.size (w.heap.size + 4) [X.heap.size, X.heap.size + 1, X.heap.size + 2, X.heap.size + 4, g2] Y2 wz → wz.cell? ⟨g2, 1, none⟩ = some (.string s1) := fun wz hT => hT.cell (by omega) (by simp) (hws 1 _ hW.w1)
      have hcell11 : ∀ wz, Touch w.heap.size (w.heap.size + 4) [X.heap.size, X.heap.size + 1, X.heap.size + 2, X.heap.size + 4, g2] Y2 wz → wz.cell? ⟨g2, 2, none⟩ = some (.string s2) := fun wz hT => hT.cell (by omega) (by simp) (hws 2 _ hW.w2)
      have cN4 := fun Q => number s0' a hW.h0.1 hW.h0.2.1 hW.h0.2.2.1 hW.h0.2.2.2 Q
      have cN8 := fun Q => number s1 b hW.h1.1 hW.h1.2.1 hW.h1.2.2.1 hW.h1.2.2.2 Q
      have cN12 := fun Q => number s2 c hW.h2.1 hW.h2.2.1 hW.h2.2.2.1 hW.h2.2.2.2 Q
      have hl3 : 2 < fw.length + 1 := by have := (List.getElem?_eq_some_iff.1 hW.w2).1; simpa using this
      obtain ⟨v0, hB, hown, hav⟩ := hout2
      obtain ⟨ps, hps⟩ : ∃ ps, ps = List.flatMap f xs ++ List.map g pre := ⟨_, rfl⟩
      rw [← hps] at hown
      have hpl : ps.length ≤ 101000 := by
        have e1 : ys.length = pre.length + (q.length + 1) := by rw [hq]; simp
        rw [hps, List.length_append, List.length_map]
        omega
      have HPS : Aside (ps = List.flatMap f xs ++ List.map g pre) := hps
      clear hps hout hgr2 hnil2 cF hrow
      have hi0 : ((0 : Nat) : Int) < (fw.length : Int) + 1 := by omega
      have hi1 : ((1 : Nat) : Int) < (fw.length : Int) + 1 := by omega
      have hi2 : (2 : Int) < (fw.length : Int) + 1 := by omega
      have hi3 : (1 : Int) < (fw.length : Int) + 1 := by omega
      have hi4 : (0 : Int) < (fw.length : Int) + 1 := by omega
      obtain ⟨i63, hi63, hz63, hs63, hy63⟩ := info_parts iPair
      refine Reg.region [[], [], [1], [2], [3], [], [5], [6], [7, 4], [], [9], [10], [11, 8], [4, 8, 12], [13], [0, 14, 12], [15, 15, 0, 1, 2, 3, 4, 5, 6, 7, 8, 9, 10, 11, 12, 13, 14, 15]]
        (fun listed act wz => ∃ (b0 b1 b2 b3 b4 b5 b6 b7 b8 b9 b10 b11 b12 b13 b14 b15 b16 : Bool) (G : Nat) (v1 : Value), listed = #[b0, b1, b2, b3, b4, b5, b6, b7, b8, b9, b10, b11, b12, b13, b14, b15, b16] ∧ act = { tmps := List.toArray (Value.slice none 0 0 :: Value.pointer (some ⟨w.heap.size, 0, none⟩) :: undef :: undef :: undef :: undef :: undef :: undef :: Value.string y :: Value.slice (some ⟨g2, 0, none⟩) (fw.length + 1) c2 :: Value.func (.func 51) #[] #[.pointer (some ⟨w.heap.size + 1 + 1, 0, none⟩), .pointer (some ⟨w.heap.size + 1, 0, none⟩), .pointer (some ⟨w.heap.size + 1 + 2, 0, none⟩)] :: undef :: undef :: undef :: undef :: undef :: undef :: undef :: undef :: undef :: undef :: undef :: undef :: undef :: undef :: undef :: undef :: undef :: undef :: undef :: undef :: undef :: undef :: undef :: undef :: undef :: undef :: undef :: undef :: undef :: undef :: undef :: Value.func (.func 51) #[] #[.pointer (some ⟨X.heap.size + 1, 0, none⟩), .pointer (some ⟨X.heap.size, 0, none⟩), .pointer (some ⟨X.heap.size + 2, 0, none⟩)] :: Value.string y :: Value.string y :: Value.slice (some ⟨A, 0, none⟩) fw.length fw.length :: Value.slice (some ⟨Y1.heap.size, 0, none⟩) 1 1 :: Value.slice (some ⟨g2, 0, none⟩) (fw.length + 1) c2 :: (if b0 = true then v0 else undef) :: (if b1 = true then Value.slice (some ⟨g2, 0, none⟩) (fw.length + 1) c2 else undef) :: (if b2 = true then Value.pointer (some ⟨g2, 0, none⟩) else undef) :: (if b3 = true then Value.string s0' else undef) :: (if b4 = true then Value.int .i32 (a : Int) else undef) :: (if b5 = true then Value.slice (some ⟨g2, 0, none⟩) (fw.length + 1) c2 else undef) :: (if b6 = true then Value.pointer (some ⟨g2, 1, none⟩) else undef) :: (if b7 = true then Value.string s1 else undef) :: (if b8 = true then Value.int .i32 (b : Int) else undef) :: (if b9 = true then Value.slice (some ⟨g2, 0, none⟩) (fw.length + 1) c2 else undef) :: (if b10 = true then Value.pointer (some ⟨g2, 2, none⟩) else undef) :: (if b11 = true then Value.string s2 else undef) :: (if b12 = true then Value.int .i32 (c : Int) else undef) :: (if b13 = true then Value.agg #[.int .i32 (a : Int), .int .i32 (b : Int), .int .i32 (c : Int), .bool false] else undef) :: (if b14 = true then Value.slice (some ⟨G, 0, none⟩) 1 1 else undef) :: (if b15 = true then v1 else undef) :: undef :: undef :: undef :: []), defers := [] } ∧
          (b13 = true → b4 = true ∧ b8 = true ∧ b12 = true) ∧ (b14 = true → b13 = true) ∧ (b15 = true → b0 = true ∧ b14 = true) ∧ (b16 = true → b15 = true) ∧
          Touch w.heap.size (w.heap.size + 4) [X.heap.size, X.heap.size + 1, X.heap.size + 2, X.heap.size + 4, g2] Y2 wz ∧ (b15 = false → Boxed wz w.heap.size 39 v0 ∧ wz.ownsRow (w.heap.size + 4) 59 4 v0 ps.length (cells4 ps)) ∧
          (b14 = true → b15 = false → ∀ j u, (enc4 ((a : Int), (b : Int), (c : Int), false))[j]? = some u → wz.cell? ((⟨G, 0, none⟩ : Addr).add j) = some u) ∧
          (b15 = true → b16 = false → (∃ v9, Boxed wz w.heap.size 39 v9) ∧ wz.ownsRow (w.heap.size + 4) 59 4 v1 (ps.length + 1) (cells4 (ps ++ [((a : Int), (b : Int), (c : Int), false)])) ∧ ∀ k ∈ [X.heap.size, X.heap.size + 1, X.heap.size + 2, X.heap.size + 4, g2], v1.ownBlock ≠ some k) ∧
          (b16 = true → OutIs wz w.heap.size (w.heap.size + 4) [X.heap.size, X.heap.size + 1, X.heap.size + 2, X.heap.size + 4, g2] (ps ++ [((a : Int), (b : Int), (c : Int), false)])))
        (by kernel_rfl) (by kernel_rfl) (by kernel_rfl) ?rstep ?rdone ?rstart
      case rstart =>
        refine ⟨false, false, false, false, false, false, false, false, false, false, false, false, false, false, false, false, false, 0, undef, rfl, rfl, by simp, by simp, by simp, by simp, ⟨rfl, rfl, rfl, Nat.le_refl _, fun _ _ h _ _ => h⟩, fun _ => ⟨hB, hown⟩, by simp, by simp, by simp⟩
      case rdone =>
        rintro act wz ⟨b0, b1, b2, b3, b4, b5, b6, b7, b8, b9, b10, b11, b12, b13, b14, b15, b16, G, v1, hl0, rfl, c13, c14, c15, c16, hT, hw1, hw2, hw3, hw4⟩
        have hl1 : #[b0, b1, b2, b3, b4, b5, b6, b7, b8, b9, b10, b11, b12, b13, b14, b15, b16] = Array.replicate 17 true := hl0.symm
        simp only [Array.replicate_succ, Array.replicate_zero, List.push_toArray, List.nil_append, List.cons_append, Array.mk.injEq, List.cons.injEq, and_true] at hl1
        obtain ⟨rfl, rfl, rfl, rfl, rfl, rfl, rfl, rfl, rfl, rfl, rfl, rfl, rfl, rfl, rfl, rfl, rfl⟩ := hl1
        have hnew := hw4 rfl
        clear c13 c14 c15 c16 hw1 hw2 hw3 hw4 hl0
        simp only [if_true]
        try gi_wp2
        have hbB : ∀ o, Y2.heap[w.heap.size]? = some o → o.isCells = true := fun o ho => by
          rw [Boxed] at hB
          rw [hB] at ho
          cases ho
          rfl
        have hY2s := hbY2.size
        have hDl : D < Y.heap.size := (Array.getElem?_eq_some_iff.1 hDY).1
        refine ⟨(others_of_below hbY2).trans (hT.others hbB), fun j hj => ?_, hT.below (hbY.trans (hbY2.mono hbY.size)) (Nat.le_refl _) (by omega), by have := hT.size; omega, hT.block D _ ((hbY2.block D hDl).trans hDY) (by omega) (.inr (.inr rfl)), ?_⟩
        · have hjl : j < Y.heap.size ∧ j ≠ w.heap.size ∧ j ∈ [X.heap.size, X.heap.size + 1, X.heap.size + 2, X.heap.size + 4, g2] := by
            simp at hj ⊢
            omega
          obtain ⟨o, ho⟩ : ∃ o, Y.heap[j]? = some o := ⟨_, Array.getElem?_eq_getElem hjl.1⟩
          exact (hT.block j o ((hbY2.block j hjl.1).trans ho) hjl.2.1 (.inr (.inl hjl.2.2))).trans ho.symm
        · have hps := HPS.out
          rw [List.map_append, ← List.append_assoc, ← hps]
          simp only [List.map_cons, List.map_nil, hg]
          exact hnew.less (by simp)
      case rstep =>
        rintro listed act wz i ⟨b0, b1, b2, b3, b4, b5, b6, b7, b8, b9, b10, b11, b12, b13, b14, b15, b16, G, v1, rfl, rfl, c13, c14, c15, c16, hT, hw1, hw2, hw3, hw4⟩ hi hfalse hdep
        have hi17 : i < 17 := hi
        clear hi
        obtain rfl | rfl | rfl | rfl | rfl | rfl | rfl | rfl | rfl | rfl | rfl | rfl | rfl | rfl | rfl | rfl | rfl : i = 0 ∨ i = 1 ∨ i = 2 ∨ i = 3 ∨ i = 4 ∨ i = 5 ∨ i = 6 ∨ i = 7 ∨ i = 8 ∨ i = 9 ∨ i = 10 ∨ i = 11 ∨ i = 12 ∨ i = 13 ∨ i = 14 ∨ i = 15 ∨ i = 16 := by omega
        · skip
          obtain rfl : b0 = false := by simpa using hfalse
          have h15 : b15 = false := by
            cases b15 with
            | false => rfl
            | true => cases (c15 rfl).1
          subst h15
          have h16 : b16 = false := by
            cases b16 with
            | false => rfl
            | true => cases c16 rfl
          subst h16
          have e0 := (hw1 rfl).1.cell
          refine wpOpIn_step rfl (fun K hK => ?_)
          go_simp
          exact hK _ _ ⟨true, _, _, _, _, _, _, _, _, _, _, _, _, _, _, _, _, G, v1, rfl, rfl, (by first | exact c13 | (intro h; cases h; done) | (intro _; exact ⟨rfl, rfl, rfl⟩) | (intro _; exact ⟨rfl, rfl⟩) | (intro _; rfl)), (by first | exact c14 | (intro h; cases h; done) | (intro _; exact ⟨rfl, rfl, rfl⟩) | (intro _; exact ⟨rfl, rfl⟩) | (intro _; rfl)), (by first | exact c15 | (intro h; cases h; done) | (intro _; exact ⟨rfl, rfl, rfl⟩) | (intro _; exact ⟨rfl, rfl⟩) | (intro _; rfl)), (by first | exact c16 | (intro h; cases h; done) | (intro _; exact ⟨rfl, rfl, rfl⟩) | (intro _; exact ⟨rfl, rfl⟩) | (intro _; rfl)), hT, hw1, hw2, hw3, hw4⟩
        · skip
          obtain rfl : b1 = false := by simpa using hfalse
          refine wpOpIn_step rfl (fun K hK => ?_)
          go_simp
          exact hK _ _ ⟨_, true, _, _, _, _, _, _, _, _, _, _, _, _, _, _, _, G, v1, rfl, rfl, (by first | exact c13 | (intro h; cases h; done) | (intro _; exact ⟨rfl, rfl, rfl⟩) | (intro _; exact ⟨rfl, rfl⟩) | (intro _; rfl)), (by first | exact c14 | (intro h; cases h; done) | (intro _; exact ⟨rfl, rfl, rfl⟩) | (intro _; exact ⟨rfl, rfl⟩) | (intro _; rfl)), (by first | exact c15 | (intro h; cases h; done) | (intro _; exact ⟨rfl, rfl, rfl⟩) | (intro _; exact ⟨rfl, rfl⟩) | (intro _; rfl)), (by first | exact c16 | (intro h; cases h; done) | (intro _; exact ⟨rfl, rfl, rfl⟩) | (intro _; exact ⟨rfl, rfl⟩) | (intro _; rfl)), hT, hw1, hw2, hw3, hw4⟩
        · skip
          obtain rfl : b2 = false := by simpa using hfalse
          obtain rfl : b1 = true := by simpa using hdep 1 (by decide)
          refine wpOpIn_step rfl (fun K hK => ?_)
          go_simp
          exact hK _ _ ⟨_, _, true, _, _, _, _, _, _, _, _, _, _, _, _, _, _, G, v1, rfl, rfl, (by first | exact c13 | (intro h; cases h; done) | (intro _; exact ⟨rfl, rfl, rfl⟩) | (intro _; exact ⟨rfl, rfl⟩) | (intro _; rfl)), (by first | exact c14 | (intro h; cases h; done) | (intro _; exact ⟨rfl, rfl, rfl⟩) | (intro _; exact ⟨rfl, rfl⟩) | (intro _; rfl)), (by first | exact c15 | (intro h; cases h; done) | (intro _; exact ⟨rfl, rfl, rfl⟩) | (intro _; exact ⟨rfl, rfl⟩) | (intro _; rfl)), (by first | exact c16 | (intro h; cases h; done) | (intro _; exact ⟨rfl, rfl, rfl⟩) | (intro _; exact ⟨rfl, rfl⟩) | (intro _; rfl)), hT, hw1, hw2, hw3, hw4⟩
        · skip
          obtain rfl : b3 = false := by simpa using hfalse
          obtain rfl : b2 = true := by simpa using hdep 2 (by decide)
          have e0 := hcell3 wz hT
          refine wpOpIn_step rfl (fun K hK => ?_)
          go_simp
          exact hK _ _ ⟨_, _, _, true, _, _, _, _, _, _, _, _, _, _, _, _, _, G, v1, rfl, rfl, (by first | exact c13 | (intro h; cases h; done) | (intro _; exact ⟨rfl, rfl, rfl⟩) | (intro _; exact ⟨rfl, rfl⟩) | (intro _; rfl)), (by first | exact c14 | (intro h; cases h; done) | (intro _; exact ⟨rfl, rfl, rfl⟩) | (intro _; exact ⟨rfl, rfl⟩) | (intro _; rfl)), (by first | exact c15 | (intro h; cases h; done) | (intro _; exact ⟨rfl, rfl, rfl⟩) | (intro _; exact ⟨rfl, rfl⟩) | (intro _; rfl)), (by first | exact c16 | (intro h; cases h; done) | (intro _; exact ⟨rfl, rfl, rfl⟩) | (intro _; exact ⟨rfl, rfl⟩) | (intro _; rfl)), hT, hw1, hw2, hw3, hw4⟩
        · skip
          obtain rfl : b4 = false := by simpa using hfalse
          obtain rfl : b3 = true := by simpa using hdep 3 (by decide)
          have h13 : b13 = false := by
            cases b13 with
            | false => rfl
            | true => cases (c13 rfl).1
          subst h13
          have h14 : b14 = false := by
            cases b14 with
            | false => rfl
            | true => cases c14 rfl
          subst h14
          have h15 : b15 = false := by
            cases b15 with
            | false => rfl
            | true => cases (c15 rfl).2
          subst h15
          have h16 : b16 = false := by
            cases b16 with
            | false => rfl
            | true => cases c16 rfl
          subst h16
          refine wpOpIn_step rfl (fun K hK => ?_)
          go_simp
          refine ⟨by simp [Fence.wide], ?_⟩
          refine (CallsIn.inRound l (callsIn_wide.2 (cN4 _))).mono ?_
          rintro e X3 ⟨rfl, HB⟩
          exact hK _ _ ⟨_, _, _, _, true, _, _, _, _, _, _, _, _, _, _, _, _, G, v1, rfl, rfl, (by first | exact c13 | (intro h; cases h; done) | (intro _; exact ⟨rfl, rfl, rfl⟩) | (intro _; exact ⟨rfl, rfl⟩) | (intro _; rfl)), (by first | exact c14 | (intro h; cases h; done) | (intro _; exact ⟨rfl, rfl, rfl⟩) | (intro _; exact ⟨rfl, rfl⟩) | (intro _; rfl)), (by first | exact c15 | (intro h; cases h; done) | (intro _; exact ⟨rfl, rfl, rfl⟩) | (intro _; exact ⟨rfl, rfl⟩) | (intro _; rfl)), (by first | exact c16 | (intro h; cases h; done) | (intro _; exact ⟨rfl, rfl, rfl⟩) | (intro _; exact ⟨rfl, rfl⟩) | (intro _; rfl)), hT.trans (Touch.of_below HB), (fun h => ⟨((hw1 h).1.kept (grown_none HB) (by simp)), (hw1 h).2.kept (grown_none HB) (Classical.em _)⟩), (by simp), (by simp), (by simp)⟩
        · skip
          obtain rfl : b5 = false := by simpa using hfalse
          refine wpOpIn_step rfl (fun K hK => ?_)
          go_simp
          exact hK _ _ ⟨_, _, _, _, _, true, _, _, _, _, _, _, _, _, _, _, _, G, v1, rfl, rfl, (by first | exact c13 | (intro h; cases h; done) | (intro _; exact ⟨rfl, rfl, rfl⟩) | (intro _; exact ⟨rfl, rfl⟩) | (intro _; rfl)), (by first | exact c14 | (intro h; cases h; done) | (intro _; exact ⟨rfl, rfl, rfl⟩) | (intro _; exact ⟨rfl, rfl⟩) | (intro _; rfl)), (by first | exact c15 | (intro h; cases h; done) | (intro _; exact ⟨rfl, rfl, rfl⟩) | (intro _; exact ⟨rfl, rfl⟩) | (intro _; rfl)), (by first | exact c16 | (intro h; cases h; done) | (intro _; exact ⟨rfl, rfl, rfl⟩) | (intro _; exact ⟨rfl, rfl⟩) | (intro _; rfl)), hT, hw1, hw2, hw3, hw4⟩
        · skip
          obtain rfl : b6 = false := by simpa using hfalse
          obtain rfl : b5 = true := by simpa using hdep 5 (by decide)
          refine wpOpIn_step rfl (fun K hK => ?_)
          go_simp
          exact hK _ _ ⟨_, _, _, _, _, _, true, _, _, _, _, _, _, _, _, _, _, G, v1, rfl, rfl, (by first | exact c13 | (intro h; cases h; done) | (intro _; exact ⟨rfl, rfl, rfl⟩) | (intro _; exact ⟨rfl, rfl⟩) | (intro _; rfl)), (by first | exact c14 | (intro h; cases h; done) | (intro _; exact ⟨rfl, rfl, rfl⟩) | (intro _; exact ⟨rfl, rfl⟩) | (intro _; rfl)), (by first | exact c15 | (intro h; cases h; done) | (intro _; exact ⟨rfl, rfl, rfl⟩) | (intro _; exact ⟨rfl, rfl⟩) | (intro _; rfl)), (by first | exact c16 | (intro h; cases h; done) | (intro _; exact ⟨rfl, rfl, rfl⟩) | (intro _; exact ⟨rfl, rfl⟩) | (intro _; rfl)), hT, hw1, hw2, hw3, hw4⟩
        · skip
          obtain rfl : b7 = false := by simpa using hfalse
          obtain rfl : b6 = true := by simpa using hdep 6 (by decide)
          have e0 := hcell7 wz hT
          refine wpOpIn_step rfl (fun K hK => ?_)
          go_simp
          exact hK _ _ ⟨_, _, _, _, _, _, _, true, _, _, _, _, _, _, _, _, _, G, v1, rfl, rfl, (by first | exact c13 | (intro h; cases h; done) | (intro _; exact ⟨rfl, rfl, rfl⟩) | (intro _; exact ⟨rfl, rfl⟩) | (intro _; rfl)), (by first | exact c14 | (intro h; cases h; done) | (intro _; exact ⟨rfl, rfl, rfl⟩) | (intro _; exact ⟨rfl, rfl⟩) | (intro _; rfl)), (by first | exact c15 | (intro h; cases h; done) | (intro _; exact ⟨rfl, rfl, rfl⟩) | (intro _; exact ⟨rfl, rfl⟩) | (intro _; rfl)), (by first | exact c16 | (intro h; cases h; done) | (intro _; exact ⟨rfl, rfl, rfl⟩) | (intro _; exact ⟨rfl, rfl⟩) | (intro _; rfl)), hT, hw1, hw2, hw3, hw4⟩
        · skip
          obtain rfl : b8 = false := by simpa using hfalse
          obtain rfl : b4 = true := by simpa using hdep 4 (by decide)
          obtain rfl : b7 = true := by simpa using hdep 7 (by decide)
          have h13 : b13 = false := by
            cases b13 with
            | false => rfl
            | true => cases (c13 rfl).2.1
          subst h13
          have h14 : b14 = false := by
            cases b14 with
            | false => rfl
            | true => cases c14 rfl
          subst h14
          have h15 : b15 = false := by
            cases b15 with
            | false => rfl
            | true => cases (c15 rfl).2
          subst h15
          have h16 : b16 = false := by
            cases b16 with
            | false => rfl
            | true => cases c16 rfl
          subst h16
          refine wpOpIn_step rfl (fun K hK => ?_)
          go_simp
          refine ⟨by simp [Fence.wide], ?_⟩
          refine (CallsIn.inRound l (callsIn_wide.2 (cN8 _))).mono ?_
          rintro e X3 ⟨rfl, HB⟩
          exact hK _ _ ⟨_, _, _, _, _, _, _, _, true, _, _, _, _, _, _, _, _, G, v1, rfl, rfl, (by first | exact c13 | (intro h; cases h; done) | (intro _; exact ⟨rfl, rfl, rfl⟩) | (intro _; exact ⟨rfl, rfl⟩) | (intro _; rfl)), (by first | exact c14 | (intro h; cases h; done) | (intro _; exact ⟨rfl, rfl, rfl⟩) | (intro _; exact ⟨rfl, rfl⟩) | (intro _; rfl)), (by first | exact c15 | (intro h; cases h; done) | (intro _; exact ⟨rfl, rfl, rfl⟩) | (intro _; exact ⟨rfl, rfl⟩) | (intro _; rfl)), (by first | exact c16 | (intro h; cases h; done) | (intro _; exact ⟨rfl, rfl, rfl⟩) | (intro _; exact ⟨rfl, rfl⟩) | (intro _; rfl)), hT.trans (Touch.of_below HB), (fun h => ⟨((hw1 h).1.kept (grown_none HB) (by simp)), (hw1 h).2.kept (grown_none HB) (Classical.em _)⟩), (by simp), (by simp), (by simp)⟩
        · skip
          obtain rfl : b9 = false := by simpa using hfalse
          refine wpOpIn_step rfl (fun K hK => ?_)
          go_simp
          exact hK _ _ ⟨_, _, _, _, _, _, _, _, _, true, _, _, _, _, _, _, _, G, v1, rfl, rfl, (by first | exact c13 | (intro h; cases h; done) | (intro _; exact ⟨rfl, rfl, rfl⟩) | (intro _; exact ⟨rfl, rfl⟩) | (intro _; rfl)), (by first | exact c14 | (intro h; cases h; done) | (intro _; exact ⟨rfl, rfl, rfl⟩) | (intro _; exact ⟨rfl, rfl⟩) | (intro _; rfl)), (by first | exact c15 | (intro h; cases h; done) | (intro _; exact ⟨rfl, rfl, rfl⟩) | (intro _; exact ⟨rfl, rfl⟩) | (intro _; rfl)), (by first | exact c16 | (intro h; cases h; done) | (intro _; exact ⟨rfl, rfl, rfl⟩) | (intro _; exact ⟨rfl, rfl⟩) | (intro _; rfl)), hT, hw1, hw2, hw3, hw4⟩
        · skip
          obtain rfl : b10 = false := by simpa using hfalse
          obtain rfl : b9 = true := by simpa using hdep 9 (by decide)
          refine wpOpIn_step rfl (fun K hK => ?_)
          go_simp
          exact hK _ _ ⟨_, _, _, _, _, _, _, _, _, _, true, _, _, _, _, _, _, G, v1, rfl, rfl, (by first | exact c13 | (intro h; cases h; done) | (intro _; exact ⟨rfl, rfl, rfl⟩) | (intro _; exact ⟨rfl, rfl⟩) | (intro _; rfl)), (by first | exact c14 | (intro h; cases h; done) | (intro _; exact ⟨rfl, rfl, rfl⟩) | (intro _; exact ⟨rfl, rfl⟩) | (intro _; rfl)), (by first | exact c15 | (intro h; cases h; done) | (intro _; exact ⟨rfl, rfl, rfl⟩) | (intro _; exact ⟨rfl, rfl⟩) | (intro _; rfl)), (by first | exact c16 | (intro h; cases h; done) | (intro _; exact ⟨rfl, rfl, rfl⟩) | (intro _; exact ⟨rfl, rfl⟩) | (intro _; rfl)), hT, hw1, hw2, hw3, hw4⟩
        · skip
          obtain rfl : b11 = false := by simpa using hfalse
          obtain rfl : b10 = true := by simpa using hdep 10 (by decide)
          have e0 := hcell11 wz hT
          refine wpOpIn_step rfl (fun K hK => ?_)
          go_simp
          exact hK _ _ ⟨_, _, _, _, _, _, _, _, _, _, _, true, _, _, _, _, _, G, v1, rfl, rfl, (by first | exact c13 | (intro h; cases h; done) | (intro _; exact ⟨rfl, rfl, rfl⟩) | (intro _; exact ⟨rfl, rfl⟩) | (intro _; rfl)), (by first | exact c14 | (intro h; cases h; done) | (intro _; exact ⟨rfl, rfl, rfl⟩) | (intro _; exact ⟨rfl, rfl⟩) | (intro _; rfl)), (by first | exact c15 | (intro h; cases h; done) | (intro _; exact ⟨rfl, rfl, rfl⟩) | (intro _; exact ⟨rfl, rfl⟩) | (intro _; rfl)), (by first | exact c16 | (intro h; cases h; done) | (intro _; exact ⟨rfl, rfl, rfl⟩) | (intro _; exact ⟨rfl, rfl⟩) | (intro _; rfl)), hT, hw1, hw2, hw3, hw4⟩
        · skip
          obtain rfl : b12 = false := by simpa using hfalse
          obtain rfl : b8 = true := by simpa using hdep 8 (by decide)
          obtain rfl : b11 = true := by simpa using hdep 11 (by decide)
          have h13 : b13 = false := by
            cases b13 with
            | false => rfl
            | true => cases (c13 rfl).2.2
          subst h13
          have h14 : b14 = false := by
            cases b14 with
            | false => rfl
            | true => cases c14 rfl
          subst h14
          have h15 : b15 = false := by
            cases b15 with
            | false => rfl
            | true => cases (c15 rfl).2
          subst h15
          have h16 : b16 = false := by
            cases b16 with
            | false => rfl
            | true => cases c16 rfl
          subst h16
          refine wpOpIn_step rfl (fun K hK => ?_)
          go_simp
          refine ⟨by simp [Fence.wide], ?_⟩
          refine (CallsIn.inRound l (callsIn_wide.2 (cN12 _))).mono ?_
          rintro e X3 ⟨rfl, HB⟩
          exact hK _ _ ⟨_, _, _, _, _, _, _, _, _, _, _, _, true, _, _, _, _, G, v1, rfl, rfl, (by first | exact c13 | (intro h; cases h; done) | (intro _; exact ⟨rfl, rfl, rfl⟩) | (intro _; exact ⟨rfl, rfl⟩) | (intro _; rfl)), (by first | exact c14 | (intro h; cases h; done) | (intro _; exact ⟨rfl, rfl, rfl⟩) | (intro _; exact ⟨rfl, rfl⟩) | (intro _; rfl)), (by first | exact c15 | (intro h; cases h; done) | (intro _; exact ⟨rfl, rfl, rfl⟩) | (intro _; exact ⟨rfl, rfl⟩) | (intro _; rfl)), (by first | exact c16 | (intro h; cases h; done) | (intro _; exact ⟨rfl, rfl, rfl⟩) | (intro _; exact ⟨rfl, rfl⟩) | (intro _; rfl)), hT.trans (Touch.of_below HB), (fun h => ⟨((hw1 h).1.kept (grown_none HB) (by simp)), (hw1 h).2.kept (grown_none HB) (Classical.em _)⟩), (by simp), (by simp), (by simp)⟩
        · skip
          obtain rfl : b13 = false := by simpa using hfalse
          obtain rfl : b4 = true := by simpa using hdep 4 (by decide)
          obtain rfl : b8 = true := by simpa using hdep 8 (by decide)
          obtain rfl : b12 = true := by simpa using hdep 12 (by decide)
          have h14 : b14 = false := by
            cases b14 with
            | false => rfl
            | true => cases c14 rfl
          subst h14
          have h15 : b15 = false := by
            cases b15 with
            | false => rfl
            | true => cases (c15 rfl).2
          subst h15
          have h16 : b16 = false := by
            cases b16 with
            | false => rfl
            | true => cases c16 rfl
          subst h16
          refine wpOpIn_step rfl (fun K hK => ?_)
          go_simp
          exact hK _ _ ⟨_, _, _, _, _, _, _, _, _, _, _, _, _, true, _, _, _, G, v1, rfl, rfl, (by first | exact c13 | (intro h; cases h; done) | (intro _; exact ⟨rfl, rfl, rfl⟩) | (intro _; exact ⟨rfl, rfl⟩) | (intro _; rfl)), (by first | exact c14 | (intro h; cases h; done) | (intro _; exact ⟨rfl, rfl, rfl⟩) | (intro _; exact ⟨rfl, rfl⟩) | (intro _; rfl)), (by first | exact c15 | (intro h; cases h; done) | (intro _; exact ⟨rfl, rfl, rfl⟩) | (intro _; exact ⟨rfl, rfl⟩) | (intro _; rfl)), (by first | exact c16 | (intro h; cases h; done) | (intro _; exact ⟨rfl, rfl, rfl⟩) | (intro _; exact ⟨rfl, rfl⟩) | (intro _; rfl)), hT, hw1, hw2, hw3, hw4⟩
        · skip
          obtain rfl : b14 = false := by simpa using hfalse
          obtain rfl : b13 = true := by simpa using hdep 13 (by decide)
          have h15 : b15 = false := by
            cases b15 with
            | false => rfl
            | true => cases (c15 rfl).2
          subst h15
          have h16 : b16 = false := by
            cases b16 with
            | false => rfl
            | true => cases c16 rfl
          subst h16
          obtain ⟨e5, e9, e11⟩ := c13 rfl
          subst e5 e9 e11
          have HB : Below wz.heap.size wz (wz.alloc (.cells #[.int .i32 (a : Int), .int .i32 (b : Int), .int .i32 (c : Int), .bool false] 59)) := (Below.refl _ wz).alloc (Nat.le_refl _) _
          refine wpOpIn_step rfl (fun K hK => ?_)
          go_simp
          exact hK _ _ ⟨_, _, _, _, _, _, _, _, _, _, _, _, _, _, true, _, _, wz.heap.size, v1, rfl, rfl, (by first | exact c13 | (intro h; cases h; done) | (intro _; exact ⟨rfl, rfl, rfl⟩) | (intro _; exact ⟨rfl, rfl⟩) | (intro _; rfl)), (by first | exact c14 | (intro h; cases h; done) | (intro _; exact ⟨rfl, rfl, rfl⟩) | (intro _; exact ⟨rfl, rfl⟩) | (intro _; rfl)), (by first | exact c15 | (intro h; cases h; done) | (intro _; exact ⟨rfl, rfl, rfl⟩) | (intro _; exact ⟨rfl, rfl⟩) | (intro _; rfl)), (by first | exact c16 | (intro h; cases h; done) | (intro _; exact ⟨rfl, rfl, rfl⟩) | (intro _; exact ⟨rfl, rfl⟩) | (intro _; rfl)), hT.trans (Touch.of_below HB), (fun h => ⟨((hw1 h).1.kept (grown_none HB) (by simp)), (hw1 h).2.kept (grown_none HB) (Classical.em _)⟩), (fun _ _ => fourCells wz _ _ _ _ _), (by simp), (by simp)⟩
        · skip
          obtain rfl : b15 = false := by simpa using hfalse
          obtain rfl : b0 = true := by simpa using hdep 0 (by decide)
          obtain rfl : b12 = true := by simpa using hdep 12 (by decide)
          obtain rfl : b14 = true := by simpa using hdep 14 (by decide)
          have h16 : b16 = false := by
            cases b16 with
            | false => rfl
            | true => cases c16 rfl
          subst h16
          obtain ⟨hB1, hO1⟩ := hw1 rfl
          have hG := hw2 rfl rfl
          refine wpOpIn_append rfl rfl (.tmp 48) (.tmp 62) 39 rfl (w.heap.size + 4) 59 i63 _ 4 16 (by kernel_rfl) hi63 hz63 hs63 hy63 rfl (by decide) v0 ps.length _ rfl hO1 ⟨G, 0, none⟩ 1 1 _ rfl rfl hG (by intro u hu; simp [enc4] at hu; rcases hu with rfl | rfl | rfl | rfl <;> rfl) (by unfold maxLen; omega) (by omega) (by have := hT.size; omega) ?_
          intro v' w' h2 h3 h4 h5
          have hT2 : Touch w.heap.size (w.heap.size + 4) [X.heap.size, X.heap.size + 1, X.heap.size + 2, X.heap.size + 4, g2] wz w' := touch_append hO1 hav h3
          have hnew : ∀ j ∈ [X.heap.size, X.heap.size + 1, X.heap.size + 2, X.heap.size + 4, g2], v'.ownBlock ≠ some j := fun j hj => by
            rcases h5 with h5 | h5
            · rw [h5]; exact hav j hj
            · rw [h5]
              have q1 := hT.size
              intro e
              simp at e hj
              omega
          exact ⟨_, _, _, _, _, _, _, _, _, _, _, _, _, _, _, true, _, G, v', rfl, rfl, (by first | exact c13 | (intro _; exact ⟨rfl, rfl, rfl⟩)), (by first | exact c14 | (intro _; rfl)), (fun _ => ⟨rfl, rfl⟩), (fun h => by cases h), hT.trans hT2, (fun h => by cases h), (fun _ h => by cases h),
            (fun _ _ => ⟨⟨_, hB1.kept h3 (boxNe hB1 hO1)⟩, by rw [cells4_snoc]; exact h2, hnew⟩), (fun h => by cases h)⟩
        · skip
          obtain rfl : b16 = false := by simpa using hfalse
          obtain rfl : b0 = true := by simpa using hdep 0 (by decide)
          obtain rfl : b1 = true := by simpa using hdep 1 (by decide)
          obtain rfl : b2 = true := by simpa using hdep 2 (by decide)
          obtain rfl : b3 = true := by simpa using hdep 3 (by decide)
          obtain rfl : b4 = true := by simpa using hdep 4 (by decide)
          obtain rfl : b5 = true := by simpa using hdep 5 (by decide)
          obtain rfl : b6 = true := by simpa using hdep 6 (by decide)
          obtain rfl : b7 = true := by simpa using hdep 7 (by decide)
          obtain rfl : b8 = true := by simpa using hdep 8 (by decide)
          obtain rfl : b9 = true := by simpa using hdep 9 (by decide)
          obtain rfl : b10 = true := by simpa using hdep 10 (by decide)
          obtain rfl : b11 = true := by simpa using hdep 11 (by decide)
          obtain rfl : b12 = true := by simpa using hdep 12 (by decide)
          obtain rfl : b13 = true := by simpa using hdep 13 (by decide)
          obtain rfl : b14 = true := by simpa using hdep 14 (by decide)
          obtain rfl : b15 = true := by simpa using hdep 15 (by decide)
          obtain ⟨⟨v9, hB9⟩, hO9, hav9⟩ := hw3 rfl rfl
          obtain ⟨g9, cp9, ev⟩ : ∃ g9 cp9, v1 = .slice (some ⟨g9, 0, none⟩) (ps.length + 1) cp9 := by
            rcases hO9.2 with ⟨_, h⟩ | ⟨g9, cp9, _, h, _⟩
            · omega
            · exact ⟨g9, cp9, h⟩
          subst ev
          have e0 := hB9.cell
          have e1 := hB9.frozen
          refine wpOpIn_step rfl (fun K hK => ?_)
          go_simp
          refine hK _ _ ⟨_, _, _, _, _, _, _, _, _, _, _, _, _, _, _, _, true, G, _, rfl, rfl, (fun _ => ⟨rfl, rfl, rfl⟩), (fun _ => rfl), (fun _ => ⟨rfl, rfl⟩), (fun _ => rfl), hT.trans (Touch.store wz _), (fun h => by cases h), (fun _ h => by cases h), (fun _ h => by cases h), fun _ => ?_⟩
          refine ⟨_, hB9.set _, ?_, hav9⟩
          rw [List.length_append]
          exact hO9.kept (grownBy_setCell' wz w.heap.size _) (.inr fun e => absurd e.symm (boxNe hB9 hO9))
      -- END13
    case done2 =>
      intro D2 Z2 hD2' ⟨hbZ, hZs, hDZ, houtZ⟩ hK2'
      obtain ⟨v, hBv, hOv, _⟩ := houtZ
      obtain ⟨L, hL⟩ := lift _ hbd
      have hlen : (xs.flatMap f ++ ys.map g).length = L.length := by rw [← hL]; simp
      have hL1 : L.length ≤ 101000 := by
        rw [← hlen, List.length_append, List.length_map]
        omega
      have hL2 : 1 ≤ L.length := by
        rw [← hlen, List.length_append, List.length_map]
        omega
      rw [hlen, ← hL] at hOv
      have HL : Aside (L.map (·.1) = xs.flatMap f ++ ys.map g) := hL
      clear hL hlen hbd hlx hly hne hys hxs
      obtain ⟨m, hm⟩ : ∃ m, m = L.length := ⟨_, rfl⟩
      rw [← hm] at hOv hL1 hL2
      obtain ⟨bg, cp, ev⟩ : ∃ bg cp, v = .slice (some ⟨bg, 0, none⟩) m cp := by
        rcases hOv.2 with ⟨_, h⟩ | ⟨g9, cp9, _, h, _⟩
        · omega
        · exact ⟨g9, cp9, h⟩
      subst ev
      have hbg := hOv.lt bg rfl
      have hbB : w.heap.size ≠ bg := fun e => boxNe hBv hOv (by rw [e]; rfl)
      have hH := holdsK_of_row L hOv
      have esz : L.toArray.size = m := by rw [hm]; simp
      have cS := sortFunc bg cp L.toArray Z2 hH hbg.2 (by rw [esz]; omega)
      rw [esz] at cS
      have HM : Aside (m = L.length) := hm
      clear hm
      have e0 := hBv.cell
      gi_wp2_with (refine ⟨trivial, ?_⟩; gi_at_call 35; refine (callsIn_wide.2 cS).mono ?_; rintro e Z3 ⟨rfl, d', n, os, hp, hs, hZ3⟩; obtain ⟨hsize3, hoth, hH3, hZ3s⟩ := sortW_facts hZ3 hbg.2 hH hp.1; have e3 := ((World.cell?_of_block (w := Z2) (a := ⟨w.heap.size, 0, none⟩) (hoth _ hBv.lt hbB)).trans e0); clear hZ3)
      have hbgc : ∀ j o, Z2.heap[j]? = some o → o.isCells = false → j ≠ bg := fun j o ho hc e => by
        subst e
        rcases hOv.2 with ⟨h, _⟩ | ⟨g9, cp9, cur, h, _, hg9, _⟩
        · cases h
        · cases h
          rw [hg9] at ho
          cases ho
          cases hc
      have hDb := hbgc D _ hDZ rfl
      have hD2b := hbgc D2 _ hK2' rfl
      have hDl : D < Z2.heap.size := (Array.getElem?_eq_some_iff.1 hDZ).1
      have hD2l : D2 < Z2.heap.size := (Array.getElem?_eq_some_iff.1 hK2').1
      have hD3 : Z3.heap[D]? = some (.deferred (some [])) := (hoth D hDl hDb).trans hDZ
      have hD23 : Z3.heap[D2]? = some (.deferred (some [])) := (hoth D2 hD2l hD2b).trans hK2'
      have hX3 := hX_lt hD2 hD2' eX
      refine ⟨by simp, .inl ⟨_, _, rfl, run_takeDeferred hD23, ?_⟩⟩
      refine ⟨by simp, .inl ⟨_, _, rfl, run_takeDeferred (by rw [World.putObj_heap_other (by omega)]; exact hD3), ?_⟩⟩
      have hps := HL.out
      have hm := HM.out
      have hdl : d'.toList.length = m := by
        have := hp.1
        rw [esz] at this
        simpa using this
      refine ⟨_, results_tmp rfl _ _ _, d'.toList.map (·.1), bg, cp, by rw [List.length_map, hdl]; rfl, ?_, ?_, by omega, ?_, fun j v hv => ?_, ?_⟩
      · rw [← hps]
        have := (perm_of (d := L.toArray) (by rw [esz]; exact hp)).map (·.1)
        simpa using this
      · exact List.pairwise_map.2 (sorted_of m (by simpa using hdl) hs)
      · have h1 := (grownBy_putObj' Z3 D2 (.deferred none)).size
        have h2 := (grownBy_putObj' (Z3.putObj D2 (.deferred none)) D (.deferred none)).size
        omega
      · have h1 := row_of_holdsK d' hH3 j v hv
        rw [World.cell?_of_block (w := Z3) ((World.putObj_heap_other (by simpa using fun e => hDb e.symm)).trans (World.putObj_heap_other (by simpa using fun e => hD2b e.symm)))]
        exact h1
      · have hb3 : Below w.heap.size w Z3 := ⟨hZ3s.1.trans hbZ.os, hZ3s.2.1.trans hbZ.tape, hZ3s.2.2.trans hbZ.output, Nat.le_trans hbZ.size hsize3, fun k hk => (hoth k (by omega) (by omega)).trans (hbZ.block k hk)⟩
        have hb4 := hb3.grown (grownBy_putObj' Z3 D2 (.deferred none)) hb3.size (fun k hk => by cases hk; omega)
        exact hb4.grown (grownBy_putObj' _ D (.deferred none)) hb4.size (fun k hk => by cases hk; omega)
    case stop2 =>
      intro D pre X hD h
      exact h.elim
    · exact fun s A B h hg => ⟨h.1.grown hg h.1.size (fun k hk => by cases hk; omega), by have := hg.size; omega, (hg.block D (Array.getElem?_eq_some_iff.1 h.2.2.1).1 (by simp; omega)).trans h.2.2.1, h.2.2.2.grownAv hg (by omega) (by simp)⟩
    · intro s A l o hl h
      subst hl
      exact ⟨h.1.grown (grownBy_putObj' A _ o) h.1.size (fun k hk => by cases hk; omega), by have := (grownBy_putObj' A (Z.heap.size + 1) o).size; omega, (World.putObj_heap_other (by omega)).trans h.2.2.1, h.2.2.2.put o (by omega) (by simp; omega)⟩
    · exact fun _ _ _ h _ => h
    · exact fun _ _ _ _ _ h => h
    · exact fun s A o h => ⟨h.1.grown (World.grownBy_alloc A o none) h.1.size (fun k hk => by cases hk), by simp; omega, (Below.heap_alloc A o D (Array.getElem?_eq_some_iff.1 h.2.2.1).1).trans h.2.2.1, h.2.2.2.kept (World.grownBy_alloc A o none)⟩
  case stop =>
    intro D pre X hD h
    exact h.elim
  · exact fun s A B h hg => ⟨h.1.grown hg h.1.size (fun k hk => by cases hk; omega), by have := hg.size; omega, h.2.2.grown hg (by omega) (by omega)⟩
  · intro s A l o hl h
    subst hl
    exact ⟨h.1.grown (grownBy_putObj' A _ o) h.1.size (fun k hk => by cases hk; omega), by have := (grownBy_putObj' A (W.heap.size + 1) o).size; omega, h.2.2.put o (by omega) (by simp; omega)⟩
  · exact fun _ _ _ h _ => h
  · exact fun _ _ _ _ _ h => h
  · exact fun s A o h => ⟨h.1.grown (World.grownBy_alloc A o none) h.1.size (fun k hk => by cases hk), by simp; omega, h.2.2.kept (World.grownBy_alloc A o none)⟩
end Go.Proofs.YtkadmnabhoijdaaDoor.New
