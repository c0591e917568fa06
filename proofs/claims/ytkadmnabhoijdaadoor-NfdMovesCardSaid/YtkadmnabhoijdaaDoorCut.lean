/- strings.Cut at one byte. -/
import Derived.Shelf.RegionOpenPlain
import Derived.Deep.QuietTactic
import Derived.BigQuiet
import Derived.Test.YtkadmnabhoijdaaDoorSplit
set_option linter.unusedVariables false
namespace Go.Proofs.YtkadmnabhoijdaaDoor.Seq
open Go Go.RowKit Go.Shelf Go.Proofs

set_option maxHeartbeats 4000000 in
set_option maxRecDepth 100000 in
theorem cut1 (c : UInt8) (s : ByteArray) (i : Nat) (hi : Lib.indexByte s.data.toList c = i) (hlt : i < s.size) (hsz : s.size < 4611686018427387904) (w : World) :
    Calls Tryd.prog 41 #[.string s, .string ⟨#[c]⟩] w fun e w' => e = .returned (.tuple #[.string (s.extract 0 i), .string (s.extract (i + 1) s.size), .bool true]) ∧ ∃ n, w' = w.drewN n := by
  have hnn : ¬ ((i : Int) < 0) := by omega
  have h0 : 0 ≤ (i : Int) := by omega
  go_enter Tryd.func41, Tryd.ntmps41
  go_wp2_with (go_at_call 54; refine (Tryd.stringslite_Index_one s c _).mono ?_; rintro e w' ⟨rfl, rfl⟩; rw [hi])
  go_quiet (fail)
  all_goals go_wp2
  go_ret3
  exact ⟨rfl, nq, rfl⟩

set_option maxHeartbeats 4000000 in
set_option maxRecDepth 100000 in
theorem cut2 (c : UInt8) (s : ByteArray) (i : Nat) (hi : Lib.indexByte s.data.toList c = i) (hlt : i < s.size) (hsz : s.size < 4611686018427387904) (w : World) :
    Calls Tryd.prog 32 #[.string s, .string ⟨#[c]⟩] w fun e w' => e = .returned (.tuple #[.string (s.extract 0 i), .string (s.extract (i + 1) s.size), .bool true]) ∧ ∃ n, w' = w.drewN n := by
  have cC := cut1 c s i hi hlt hsz w
  go_enter Tryd.func32, Tryd.ntmps32
  go_wp2_with (go_at_call 41; refine cC.mono ?_; rintro e w' ⟨rfl, n, rfl⟩)
  go_ret3
  exact ⟨rfl, n, rfl⟩
end Go.Proofs.YtkadmnabhoijdaaDoor.Seq
