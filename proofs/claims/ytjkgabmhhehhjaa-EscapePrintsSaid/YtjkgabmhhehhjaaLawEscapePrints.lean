/- The row of the statement EscapePrints, out of its Pure and the walk: for every input. Conditions: none. -/
import Derived.Test.YtjkgabmhhehhjaaRows
import Derived.Test.YtjkgabmhhehhjaaQEscapePrints
import Derived.Test.YtjkgabmhhehhjaaPureEscapePrints
import Derived.WalkKit
import Derived.ProofKit
import Derived.OpenShut
import Derived.ShutString
import Derived.ChangeOld
import Derived.Below
import Derived.SizedLaws
import Derived.Lib.SmallJoins
import Derived.Test.YtjkgabmhhehhjaaWSized
namespace Go.Proofs.Ytjkgabmhhehhjaa.escapePrints
open Go.ChangeShapes Go.WideShapes Go.ChangeAt Go.RowKit
open Go.ChangeMaps (open_string shut_string)
set_option linter.unusedVariables false
open Go.Proofs.Ytjkgabmhhehhjaa.PEscapePrints (IsRow)
theorem own : ownKnob Try.prog.godebug = none := by kernel_rfl
theorem laidOut : laidOutB Try.prog = true := by kernel_rfl
set_option maxRecDepth 100000 in
theorem lifted (os : Os) (started : os.Started) (H : Type) (enc : TypeId × Value → H) :
    ReturnsInHanded {} Try.checked os 10 .any (Rows.escapePrintsSpec.pre6 enc Try.prog Try.f10 Rows.escapePrintsRow.domain false) (Rows.escapePrintsSpec.post enc Try.prog Try.f10 false true false false) := by
  refine returnsInHanded_of_change_sized (C := Try.checked) own started (by kernel_rfl) Try.func10
    (ChangeSpec.witness6 (enc := enc) (C := Try.checked) false ⟨#[], #[.agg #[.int .i64 0, .int .i64 0], .agg #[.int .i64 0, .int .i64 0]], []⟩ 8 (by kernel_rfl) (by kernel_rfl) (by kernel_rfl) (by kernel_rfl)) ?_
  intro W base args ds gs before hval0 hW hcnd hsz0 _
  have hsz : (DataW.weightsEach Try.prog (Try.f10.params.toList ++ Rows.escapePrintsSpec.plain.varTypes Try.prog) (ds ++ gs)).all (· ≤ reachBytes) = true := hsz0
  have hval : ∀ (j : Nat) t v, Try.f10.params[j]? = some t → args[j]? = some v → Value.okWide Try.prog W .any base t v := hval0
  have hW' := hW
  obtain ⟨p, q, hA0, hV, rfl, hfz, hnd⟩ := hW
  have hA : DataW.TrodAll enc Try.prog W 0 (fun _ => true) true Try.f10.params.toList args.toList ds p := hA0
  rw [Try.params10] at hA hval hsz
  obtain ⟨v0, vs0, d0, ds0, p0, q0, hargs, rfl, rfl, h0, r0⟩ := trodAll_cons hA
  obtain ⟨v1, vs1, d1, ds1, p1, q1, rfl, rfl, rfl, h1, r1⟩ := trodAll_cons r0
  obtain ⟨rfl, rfl, rfl⟩ := trodAll_nil r1
  obtain rfl : args = #[v0, v1] := by cases args; simp_all
  obtain ⟨rfl, rfl⟩ := trodVars_none hV
  obtain ⟨c0, e0, f0, g0, m0, rfl, rfl, rfl, hf0, hg0⟩ := Joins.open_agg2 Try.underlying27 (by kernel_rfl) (by kernel_rfl) (hval 0 27 v0 rfl rfl) h0
  obtain ⟨a0, ea0, rfl, w0⟩ := DataW.trod_int Try.underlying3 hf0
  obtain ⟨b0, eb0, rfl, x0⟩ := DataW.trod_int Try.underlying3 hg0
  simp at ea0 eb0
  subst ea0 eb0
  obtain ⟨c1, e1, f1, g1, m1, rfl, rfl, rfl, hf1, hg1⟩ := Joins.open_agg2 Try.underlying27 (by kernel_rfl) (by kernel_rfl) (hval 1 27 v1 rfl rfl) h1
  obtain ⟨a1, ea1, rfl, w1⟩ := DataW.trod_int Try.underlying3 hf1
  obtain ⟨b1, eb1, rfl, x1⟩ := DataW.trod_int Try.underlying3 hg1
  simp at ea1 eb1
  subst ea1 eb1
  clear hA0 hval0 hsz0 hsz
  refine (PEscapePrints.amanuensislaw14_EscapePrints.walk Pure.EscapePrints a0 b0 a1 b1 W w0 x0 w1 x1).mono fun e W' ⟨he, bel⟩ => ?_
  subst he
  exact ⟨_, rfl, _, _, _, [], _, [], hW', trodAll_mk1 (shut_bool Try.underlying4 _), (trodAll_cons_mk (Joins.shut_agg2 (y0 := (.lit (.int .i64 a0), [])) (y1 := (.lit (.int .i64 b0), [])) Try.underlying27 (by kernel_rfl) (by kernel_rfl) (shut_int Try.underlying3 w0) (shut_int Try.underlying3 x0)) (trodAll_cons_mk (Joins.shut_agg2 (y0 := (.lit (.int .i64 a1), [])) (y1 := (.lit (.int .i64 b1), [])) Try.underlying27 (by kernel_rfl) (by kernel_rfl) (shut_int Try.underlying3 w1) (shut_int Try.underlying3 x1)) trodAll_mk0)), rfl, bel.frame _, fun h => by cases h⟩
theorem over : Rows.escapePrintsRow.holds Try.pinned (OpenSpec.ofChange Rows.escapePrintsSpec) :=
  OpenClaim.holds_of_wide 10 Try.f10 rfl rfl rfl rfl rfl rfl rfl ⟨rfl, rfl, rfl, rfl, rfl⟩ rfl rfl rfl rfl rfl (by kernel_rfl) Try.func10 (by kernel_rfl)
    (of_decide_eq_true (by kernel_rfl)) (by unfold Func.isWrapper; first | (rw [if_pos (by decide +kernel)]; kernel_rfl) | (rw [if_neg (by decide +kernel)]; exact ⟨rfl, rfl⟩))
    (fun os started H enc _ => lifted os started H enc)
theorem proved : Rows.EscapePrintsSaid := over
#print axioms proved
end Go.Proofs.Ytjkgabmhhehhjaa.escapePrints
namespace Go.Proofs.Ytjkgabmhhehhjaa
/-- The row, under a short name, for the claim. -/
theorem escapePrints_holds : Rows.EscapePrintsSaid := escapePrints.proved
end Go.Proofs.Ytjkgabmhhehhjaa
