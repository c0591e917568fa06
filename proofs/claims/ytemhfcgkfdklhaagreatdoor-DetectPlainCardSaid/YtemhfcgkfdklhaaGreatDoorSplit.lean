/- strings.SplitSeq (f17, f21): the iterator that it hands over. -/
import Derived.Test.YtemhfcgkfdklhaaGreatDoorIter
import Derived.Test.YtemhfcgkfdklhaaGreatDoorIter
import Derived.Test.YtemhfcgkfdklhaaGreatDoorHex
set_option linter.unusedVariables false
namespace Go.Proofs.YtemhfcgkfdklhaaGreatDoor.Seq
open Go Go.RowKit Go.Shelf Go.Proofs

def iterW (w : World) (s sep : ByteArray) : World := ((w.alloc (.cells #[.string s] 9)).alloc (.cells #[.string sep] 9)).alloc (.cells #[.int .i64 0] 3)
def iterV (w : World) : Value := .func (.func 99) #[] #[.pointer (some ⟨w.heap.size + 1, 0, none⟩), .pointer (some ⟨w.heap.size, 0, none⟩), .pointer (some ⟨w.heap.size + 2, 0, none⟩)]

set_option maxHeartbeats 4000000 in
set_option maxRecDepth 100000 in
theorem split1 (s sep : ByteArray) (w : World) : Calls Tryz.prog 92 #[.string s, .string sep, .int .i64 0] w fun e w' => e = .returned (iterV w) ∧ w' = iterW w s sep := by
  go_enter Tryz.func92, Tryz.ntmps92
  go_wp2
  go_ret
  exact ⟨rfl, rfl⟩

set_option maxHeartbeats 4000000 in
set_option maxRecDepth 100000 in
theorem split (s sep : ByteArray) (w : World) : Calls Tryz.prog 75 #[.string s, .string sep] w fun e w' => e = .returned (iterV w) ∧ w' = iterW w s sep := by
  go_enter Tryz.func75, Tryz.ntmps75
  go_wp2_with (go_at_call 92; refine (split1 s sep _).mono ?_; rintro e w' ⟨rfl, rfl⟩)
  go_ret
  exact ⟨rfl, rfl⟩

theorem iterW_below (w : World) (s sep : ByteArray) : Below w.heap.size w (iterW w s sep) :=
  (((Below.refl _ w).alloc (Nat.le_refl _) _).alloc (by simp) _).alloc (by simp; omega) _
theorem iterW_size (w : World) (s sep : ByteArray) : (iterW w s sep).heap.size = w.heap.size + 3 := by simp [iterW]
theorem iterW_s (w : World) (s sep : ByteArray) : Boxed (iterW w s sep) w.heap.size 9 (.string s) := ((Boxed.new w 9 _).alloc _).alloc _
theorem iterW_sep (w : World) (s sep : ByteArray) : Boxed (iterW w s sep) (w.heap.size + 1) 9 (.string sep) := by
  have h := (Boxed.new (w.alloc (.cells #[.string s] 9)) 9 (.string sep)).alloc (.cells #[.int .i64 0] 3)
  rwa [World.size_alloc] at h
theorem iterW_save (w : World) (s sep : ByteArray) : Boxed (iterW w s sep) (w.heap.size + 2) 3 (.int .i64 0) := by
  have h := Boxed.new ((w.alloc (.cells #[.string s] 9)).alloc (.cells #[.string sep] 9)) 3 (.int .i64 0)
  rwa [World.size_alloc, World.size_alloc] at h

/-- SplitSeq's iterator over one byte, from the world that SplitSeq leaves. -/
theorem iter_split (c : UInt8) (s : ByteArray) (xs : List ByteArray) (hx : Splits c s xs) (hsz : s.size < 4611686018427387904) (w : World) :
    SeqCell Tryz.prog 99 #[.pointer (some ⟨w.heap.size + 1, 0, none⟩), .pointer (some ⟨w.heap.size, 0, none⟩), .pointer (some ⟨w.heap.size + 2, 0, none⟩)] w.heap.size (Kp [w.heap.size + 1, w.heap.size, w.heap.size + 2]) xs (iterW w s ⟨#[c]⟩) :=
  iter c s xs hx hsz _ _ _ _ (by omega) (by omega) (iterW_sep _ _ _) (iterW_s _ _ _) (iterW_save _ _ _)
end Go.Proofs.YtemhfcgkfdklhaaGreatDoor.Seq
