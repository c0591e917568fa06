/- DetectTold, walked. -/
import Derived.Test.YtemhfcgkfdklhaaGreatDoorRec
set_option linter.all false
namespace Go.Proofs.YtemhfcgkfdklhaaGreatDoor.Look
open Go Go.RowKit Go.Shelf Go.Proofs Go.Proofs.YtemhfcgkfdklhaaGreatDoor.Rd


set_option maxHeartbeats 8000000 in
set_option maxRecDepth 100000 in
theorem toldLaw (w : World) (hT : Tabs w) (lead0 lead : ByteArray) (fv : Value) (fs : List Fld) (h : FieldsAt w fv fs) (hf : FitsR lead0 fs) (hby : BytesR fs) :
    Calls Tryz.prog 4 #[.agg #[.string lead0, fv], .string lead] w fun e w' => e = .returned (.bool true) ∧ Below w.heap.size w w' := by
  have HA : Hid (∀ X, Below w.heap.size w X → Calls Tryz.prog 13 #[] X fun e w' => e = .returned (.bool true) ∧ Below X.heap.size X w') := fun X hX => answers24 X (hT.below hX)
  obtain ⟨W0, hW0⟩ : ∃ W0, W0 = w.alloc (.cells #[.string lead0, fv] 36) := ⟨_, rfl⟩
  have hb0 : Below w.heap.size w W0 := by rw [hW0]; exact (Below.refl _ w).alloc (Nat.le_refl _) _
  obtain ⟨x0, x1, xf0, xf1, xl⟩ := box2 w (.string lead0) fv 36
  rw [← hW0] at x0 x1 xf0 xf1 xl
  have hS := cSmall24 W0 lead0 fv fs (h.below hb0) hf
  have hSd := fun X => cSoundR lead X
  have HB : Aside (Below w.heap.size w W0) := hb0
  obtain ⟨fa, fc, hfv, hfx⟩ := h
  have hFA : FieldsAt w fv fs := ⟨fa, fc, hfv, hfx⟩
  obtain ⟨M, hM⟩ : ∃ M, M = fs.length := ⟨_, rfl⟩
  rw [← hM] at hfv
  subst hfv
  cases hsm : smallV lead0 fs with
  | false =>
    rw [hsm] at hS
    have HS := Lib.hid hS
    clear hS hSd hFA hfx hby hf hT hsm hM hb0 x0 x1 xf0 xf1 xl
    rw [hW0] at HS
    replace hW0 := Lib.hid hW0
    go_enter Tryz.func4, Tryz.ntmps4
    go_wp2_with (first
      | (have q := hA1; go_at_call 13; refine (HA.out _ hA1.out).mono ?_; rintro e w3 ⟨rfl, hb3⟩; clear q)
      | (go_at_call 11; refine HS.out.mono ?_; rintro e w1 ⟨rfl, hb1⟩; have hA1 : Aside (Below w.heap.size w w1) := (by rw [← hW0.out] at hb1; exact HB.out.trans (hb1.mono HB.out.size)); clear HS hb1))
    go_ret
    exact ⟨rfl, hA1.out.trans (hb3.mono hA1.out.size)⟩
  | true =>
    rw [hsm] at hS
    have HS := Lib.hid hS
    cases hsd : soundV lead with
    | false =>
      rw [hsd] at hSd
      have HSd := Lib.hid hSd
      clear hS hSd hFA hfx hby hf hT hsm hM hb0 x0 x1 xf0 xf1 xl hsd
      rw [hW0] at HS
      replace hW0 := Lib.hid hW0
      go_enter Tryz.func4, Tryz.ntmps4
      go_wp2_with (first
        | (have q := hA1; go_at_call 13; refine (HA.out _ hA1.out).mono ?_; rintro e w3 ⟨rfl, hb3⟩; clear q)
        | (go_at_call 12; refine (HSd.out _).mono ?_; rintro _ w9 ⟨rfl, rfl⟩)
        | (go_at_call 11; refine HS.out.mono ?_; rintro e w1 ⟨rfl, hb1⟩; have hA1 : Aside (Below w.heap.size w w1) := (by rw [← hW0.out] at hb1; exact HB.out.trans (hb1.mono HB.out.size)); clear HS hb1))
      go_ret
      exact ⟨rfl, hA1.out.trans (hb3.mono hA1.out.size)⟩
    | true =>
      rw [hsd] at hSd
      have HSd := Lib.hid hSd
      obtain ⟨hcd, hsz⟩ := sound_coding hsd
      have hR := Recs.small hFA hby hsm
      obtain ⟨a, ha⟩ : ∃ r, r = evM fs := ⟨_, rfl⟩
      obtain ⟨b, hb⟩ : ∃ r, r = evU fs := ⟨_, rfl⟩
      obtain ⟨t, ht⟩ : ∃ r, r = codingV lead := ⟨_, rfl⟩
      have HE : Hid (∀ X, Below w.heap.size w X → Calls Tryz.prog 14 #[.agg #[.string lead, .slice fa M fc]] X fun e w' => e = .returned (.tuple #[.bool a, .bool b]) ∧ Below X.heap.size X w') := fun X hX => by
        rw [ha, hb]
        exact cEvidence X (hT.below hX) lead _ fs (hR.below hX)
      have HD : Hid (∀ X, Below w.heap.size w X → Calls Tryz.prog 15 #[.agg #[.string lead, .slice fa M fc]] X fun e w' => e = .returned (.tuple #[.int .i64 (detV t a b).1, .int .i64 (detV t a b).2]) ∧ Below X.heap.size X w') := fun X hX => by
        rw [ha, hb, ht]
        exact cDetect X (hT.below hX) lead (by omega) _ fs (hR.below hX)
      have HCd : Hid (∀ X, Calls Tryz.prog 16 #[.string lead] X fun e w' => e = .returned (.int .i64 t) ∧ X = w') := fun X => by
        rw [ht]; exact cCodingR lead X
      rw [← ht] at hcd
      -- behind small
      have HS2 : Hid (Calls Tryz.prog 11 #[.agg #[.string lead0, .slice fa M fc]] W0 fun e w' => e = .returned (.bool true) ∧ w'.cell? ⟨w.heap.size, 0, none⟩ = some (.string lead0) ∧ w'.cell? ⟨w.heap.size, 1, none⟩ = some (.slice fa M fc) ∧ w'.frozen? ⟨w.heap.size, 0, none⟩ = false ∧ w.heap.size < w'.heap.size ∧ Aside (Below w.heap.size w w')) := HS.out.mono fun e w' h => ⟨h.1, (h.2.cell (p := ⟨w.heap.size, 0, none⟩) xl).trans x0, (h.2.cell (p := ⟨w.heap.size, 1, none⟩) xl).trans x1, (h.2.frozen (p := ⟨w.heap.size, 0, none⟩) xl).trans xf0, Nat.lt_of_lt_of_le xl h.2.size, hb0.trans (h.2.mono hb0.size)⟩
      clear HS hS hSd hFA hfx hby hf hT hsm hM hb0 x0 x1 xf0 xf1 xl hsd hR ha hb ht hsz
      rw [hW0] at HS2
      replace hW0 := Lib.hid hW0
      rcases hcd with rfl | rfl <;> cases a <;> cases b
      all_goals
        go_enter Tryz.func4, Tryz.ntmps4
        go_wp2_with (first
          | (have q := hA3; go_at_call 13; refine (HA.out _ hA3.out).mono ?_; rintro e w4 ⟨rfl, hb4⟩; clear q)
          | (have q := hA3; go_at_call 16; refine (HCd.out _).mono ?_; rintro _ w9 ⟨rfl, rfl⟩; clear q)
          | (have q := hA2; go_at_call 15; refine (HD.out _ hA2.out).mono ?_; rintro e w3 ⟨rfl, hb3⟩; have hA3 : Aside (Below w.heap.size w w3) := hA2.out.trans (hb3.mono hA2.out.size); clear hb3 q)
          | (have q := hA1; go_at_call 14; refine (HE.out _ (hA1.out.setCell (p := ⟨w.heap.size, 0, none⟩) (Nat.le_refl _) _)).mono ?_; rintro e w2 ⟨rfl, hb2⟩; have hcl : w.heap.size < (w1.setCell ⟨w.heap.size, 0, none⟩ (.string lead)).heap.size := (by simpa using y4); have z0 : w2.cell? ⟨w.heap.size, 0, none⟩ = some (.string lead) := (hb2.cell (p := ⟨w.heap.size, 0, none⟩) hcl).trans (cell_put y0); have z1 : w2.cell? ⟨w.heap.size, 1, none⟩ = some (.slice fa M fc) := (hb2.cell (p := ⟨w.heap.size, 1, none⟩) hcl).trans ((cell_off (by decide)).trans y1); have hA2 : Aside (Below w.heap.size w w2) := (hA1.out.setCell (p := ⟨w.heap.size, 0, none⟩) (Nat.le_refl _) _).trans (hb2.mono (by simp; omega)); clear hb2 hcl q)
          | (go_at_call 12; refine (HSd.out _).mono ?_; rintro _ w9 ⟨rfl, rfl⟩)
          | (go_at_call 11; refine HS2.out.mono ?_; rintro e w1 ⟨rfl, y0, y1, yf0, y4, hA1⟩; clear HS2))
        go_ret
        exact ⟨rfl, hA3.out.trans (hb4.mono hA3.out.size)⟩
theorem toldRow {w : World} (lead0 : ByteArray) (fv : Value) (fs : List Fld) (h : RecIn w lead0 fv fs) (lead : ByteArray) (hT : Tabs w) :
    Calls Tryz.prog 4 #[.agg #[.string lead0, fv], .string lead] w fun e w' => e = .returned (.bool true) ∧ Below w.heap.size w w' := toldLaw w hT lead0 lead fv fs h.flds h.fits h.bytes
end Go.Proofs.YtemhfcgkfdklhaaGreatDoor.Look
