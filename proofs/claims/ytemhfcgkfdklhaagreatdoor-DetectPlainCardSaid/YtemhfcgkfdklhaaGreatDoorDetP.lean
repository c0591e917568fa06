/- Plain words of DetectTexts and DetectPlain. -/
import Derived.Test.YtemhfcgkfdklhaaGreatDoorOwnF
import Derived.Test.YtemhfcgkfdklhaaGreatDoorTab0
set_option linter.all false
namespace Go.Proofs.YtemhfcgkfdklhaaGreatDoor.Look
open Go Go.RowKit Go.Shelf Go.Proofs Go.Proofs.YtemhfcgkfdklhaaGreatDoor.Rd

def tag1 : ByteArray := ⟨#[48, 48, 49]⟩
theorem tag1_ctl : ctlV tag1 = true := by decide +kernel
def fld1 (l : List Int) : Fld := ⟨tag1, l, []⟩
theorem texts_one (l : List Int) : textsF (fld1 l) = [l] := by unfold textsF fld1; rw [if_pos tag1_ctl]
theorem evM_snoc (fs : List Fld) (l : List Int) : evM (fs ++ [fld1 l]) = (evM fs && mV l) := by
  unfold evM; rw [List.all_append]; simp [texts_one]
theorem evU_snoc (fs : List Fld) (l : List Int) : evU (fs ++ [fld1 l]) = (evU fs && uV l) := by
  unfold evU; rw [List.all_append]; simp [texts_one]
theorem mV_e2 : mV [226, 101] = true := by unfold mV; rw [sample]
theorem uV_e2 : uV [226, 101] = false := by decide +kernel
theorem uV_w : uV [215, 169, 228, 184, 128, 194, 128] = true := by decide +kernel
theorem mV_w : mV [215, 169, 228, 184, 128, 194, 128] = false := by
  have n0 : ∃ e p, nextV markV T0 [215, 169, 228, 184, 128, 194, 128] ⟨0, 1, 2, [], [], 0⟩ = .bad e p := by
    have hc : codeV [215, 169, 228, 184, 128, 194, 128] ⟨0, 1, 2, [], [], 0⟩ = some (2, 87, 1) := by decide +kernel
    rw [nextV_cons (s := ⟨0, 1, 2, [], [], 0⟩) (c := 215) (t := [169, 228, 184, 128, 194, 128]) rfl, if_neg (by decide), show plainV 215 = none by decide]
    simp only [hc, T0_none]
    exact ⟨_, _, rfl⟩
  obtain ⟨e, p, n0⟩ := n0
  have hr := run_bad (by decide) n0
  unfold mV textV decodeV
  rw [if_pos (by decide), hr]
  rfl
end Go.Proofs.YtemhfcgkfdklhaaGreatDoor.Look
