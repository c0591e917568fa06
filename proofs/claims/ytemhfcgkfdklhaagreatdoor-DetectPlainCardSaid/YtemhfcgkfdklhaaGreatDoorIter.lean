/- strings.splitSeq's iterator (f27) over one byte, by the iterator's contract of the Seq text. -/
import Derived.LoopIn
import Derived.RangeFuncBox
import Derived.RangeFuncNested
import Derived.Shelf.RegionOpen
import Derived.Shelf.Lay
import Derived.Test.YtemhfcgkfdklhaaGreatDoorLay
import Derived.Test.YtemhfcgkfdklhaaGreatDoorSeq
namespace Go.Proofs.YtemhfcgkfdklhaaGreatDoor.Seq
open Go Go.RowKit Go.Shelf Go.Proofs
attribute [local go_sem] Oper.semAt_some

/-- What a string is cut into at each byte c. -/
inductive Splits (c : UInt8) : ByteArray → List ByteArray → Prop
  | last (s : ByteArray) : Lib.indexByte s.data.toList c = -1 → Splits c s [s]
  | cut (s : ByteArray) (i : Nat) (xs : List ByteArray) : Lib.indexByte s.data.toList c = i → i < s.size → Splits c (s.extract (i + 1) s.size) xs → Splits c s (s.extract 0 i :: xs)

def Kp (bs : List Nat) (A B : World) : Prop := ∀ k ∈ bs, B.heap[k]? = A.heap[k]?

def strOf (W : World) (b : Nat) : ByteArray := match W.cell? ⟨b, 0, none⟩ with
  | some (.string s) => s
  | _ => ByteArray.empty
theorem strOf_boxed {W : World} {b : Nat} {s : ByteArray} (h : Boxed W b 9 (.string s)) : strOf W b = s := by simp [strOf, h.cell]

set_option maxRecDepth 100000 in
set_option maxHeartbeats 2000000 in
theorem iter (c : UInt8) (s0 : ByteArray) (xs : List ByteArray) (hx : Splits c s0 xs) (hsz : s0.size < 4611686018427387904) (w : World) (bp bs bv : Nat) (hps : bp ≠ bs) (hvs : bv ≠ bs)
    (hbp : Boxed w bp 9 (.string ⟨#[c]⟩)) (hbs : Boxed w bs 9 (.string s0)) (hbv : Boxed w bv 3 (.int .i64 0)) :
    SeqCell Tryz.prog 99 #[.pointer (some ⟨bp, 0, none⟩), .pointer (some ⟨bs, 0, none⟩), .pointer (some ⟨bv, 0, none⟩)] bs (Kp [bp, bs, bv]) xs w := fun n l J Jx W hW hJ hJx hY h0 => by
  have kp : ∀ {A B : World} {b : Nat} {t : TypeId} {v : Value} , b ∈ [bp, bs, bv] → Boxed A b t v → Kp [bp, bs, bv] A B → Boxed B b t v := fun hb h hk => (hk _ hb).trans h
  have hp0 : Boxed W bp 9 (.string ⟨#[c]⟩) := (hW.block _ hbp.lt).trans hbp
  have hs0 : Boxed W bs 9 (.string s0) := (hW.block _ hbs.lt).trans hbs
  have hv0 : Boxed W bv 3 (.int .i64 0) := (hW.block _ hbv.lt).trans hbv
  have c1 := hp0.cell
  refine callsIn_of_wp Tryz.func99 rfl trivial ?_ rfl
  simp only [Tryz.ntmps99, List.size_toArray, List.length_cons, List.length_nil, Nat.reduceAdd, Nat.reduceSub, Array.replicate_succ, Array.replicate_zero, List.push_toArray, List.append_toArray, List.nil_append, List.cons_append]
  gi_wp2
  gi_loopw [7] (fun _ wr => ∃ (pre post : List ByteArray) (r : ByteArray), xs = pre ++ post ∧ Splits c r post ∧ r.size < 4611686018427387904 ∧ Boxed wr bp 9 (.string ⟨#[c]⟩) ∧ Boxed wr bs 9 (.string r) ∧ Boxed wr bv 3 (.int .i64 0) ∧ J pre wr)
    (fun _ wr => (strOf wr bs).size)
  case atStart => exact ⟨[], xs, s0, rfl, hx, hsz, hp0, hs0, hv0, h0⟩
  obtain ⟨pre, post, r, rfl, hr, hrs, hp, hs, hv, hj⟩ := hrel
  have e1 := hp.cell
  have e2 := hs.cell
  have e3 := hv.cell
  have e4 := hs.frozen
  have hsp := hbs.lt
  have hpp := hbp.lt
  have hvp := hbv.lt
  have fw : Fence.wide.depth.isSome = true → 1 ≤ n := fun h => by simp [Fence.wide] at h
  cases hr with
  | last _ hi =>
    obtain ⟨f1, t1, a1, b1, hy1, hR1⟩ := hY pre r wr hj ⟨[], rfl⟩
    gi_wp2_with (first | (refine ⟨trivial, fun h => by simp [Fence.wide] at h, ?_⟩; gi_at_call 100; refine (callsIn_wide.2 (Tryz.strings_Index_one r c _)).mono ?_; rintro e w' ⟨rfl, rfl⟩; rw [hi]))
    refine ⟨fw, hR1.mono ?_⟩
    rintro e W1 (⟨rfl, hJ1, hk1⟩ | ⟨rfl, hx1⟩)
    · gi_wp2
      go_end0
      exact ⟨⟨_, rfl⟩, .inl hJ1⟩
    · gi_wp2
      go_end0
      exact ⟨⟨_, rfl⟩, .inr ⟨_, hx1⟩⟩
  | cut _ i xs' hi hlt hr' =>
    obtain ⟨f1, t1, a1, b1, hy1, hR1⟩ := hY pre (r.extract 0 i) wr hj ⟨xs', rfl⟩
    have hnn : ¬ ((i : Int) < 0) := by omega
    gi_wp2_with (first | (refine ⟨trivial, fun h => by simp [Fence.wide] at h, ?_⟩; gi_at_call 100; refine (callsIn_wide.2 (Tryz.strings_Index_one r c _)).mono ?_; rintro e w' ⟨rfl, rfl⟩; rw [hi]))
    refine ⟨fw, hR1.mono ?_⟩
    rintro e W1 (⟨rfl, hJ1, hk1⟩ | ⟨rfl, hx1⟩)
    · have hp1 := kp (by simp) hp hk1
      have hs1 := kp (by simp) hs hk1
      have hv1 := kp (by simp) hv hk1
      have d1 := hp1.cell
      have d2 := hs1.cell
      have d3 := hv1.cell
      have d4 := hs1.frozen
      gi_wp2
      have hlen : (r.extract (i + 1) r.size).size = r.size - (i + 1) := by simp
      refine ⟨⟨pre ++ [r.extract 0 i], xs', r.extract (i + 1) r.size, by simp, hr', by omega, hp1.other hps _, hs1.set _, hv1.other hvs _, hJ _ _ _ hJ1 (grownBy_setCell' W1 bs _)⟩, ?_⟩
      rw [strOf_boxed (hs1.set _), strOf_boxed hs, hlen]
      omega
    · gi_wp2
      refine bodyPost_ret (results_none rfl _ _ _) rfl ?_
      exact ⟨⟨_, rfl⟩, .inr ⟨_, hx1⟩⟩
end Go.Proofs.YtemhfcgkfdklhaaGreatDoor.Seq
