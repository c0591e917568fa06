/- nfd.Order's comparison: the difference of two classes; what slices.insertionSortCmpFunc asks of it. -/
import Derived.Test.YtkadmnabhoijdaaDoorOf
set_option linter.unusedVariables false
namespace Go.Proofs.YtkadmnabhoijdaaDoor.Look
open Go Go.RowKit Go.Shelf Go.Proofs Go.Lib Go.Sort

def enc32 (x : Int) : Value := .int .i32 x
theorem grow_two (w : World) (a c : Nat) (b d : Array Obj) : ∃ q os, grow ((grow (w.drewN a) b).drewN c) d = grow (w.drewN q) os :=
  ⟨a + c, b ++ d, by
    rw [show (grow (w.drewN a) b).drewN c = grow ((w.drewN a).drewN c) b from rfl, World.drewN_drewN, grow_grow]⟩
@[irreducible] def kOf (x : Int) : Int := classV x
def cfO (x y : Int) : Int := kOf x - kOf y

set_option maxHeartbeats 8000000 in
set_option maxRecDepth 1000000 in
theorem cmpO (x y : Int) (w : World) : Calls Tryd.prog 19 #[.int .i32 x, .int .i32 y] w fun e w' => e = .returned (.int .i64 (cfO x y)) ∧ ∃ q os, w' = grow (w.drewN q) os := by
  obtain ⟨bx1, bx2⟩ := (by unfold kOf; exact classV_bound x : 0 ≤ kOf x ∧ kOf x ≤ 255 + 255)
  obtain ⟨by1, by2⟩ := (by unfold kOf; exact classV_bound y : 0 ≤ kOf y ∧ kOf y ≤ 255 + 255)
  have H : ∀ (r : Int) (w : World), Calls Tryd.prog 20 #[.int .i32 r] w fun e w' => e = .returned (.int .i64 (kOf r)) ∧ ∃ q os, w' = grow (w.drewN q) os := fun r w => by unfold kOf; exact ofc r w
  unfold cfO
  go_enter Tryd.func19, Tryd.ntmps19
  go_wp2_with (go_at_call 20; refine (H _ _).mono ?_; rintro e w' ⟨rfl, q, os, rfl⟩)
  go_ret
  exact ⟨rfl, grow_two _ _ _ _ _⟩

/-- What the sort asks. -/
theorem cmpLays (blk off size : Nat) (w : World) : CmpLays1 Tryd.prog 19 #[] enc32 cfO blk off size w :=
  fun m os dk hs x y => cmpO x y _
theorem oneCell32 : OneCell enc32 := fun _ => rfl
end Go.Proofs.YtkadmnabhoijdaaDoor.Look
