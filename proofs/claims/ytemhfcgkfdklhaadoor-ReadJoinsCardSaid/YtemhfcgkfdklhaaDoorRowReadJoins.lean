/- ReadJoins holds: the row and the card. Conditions: the card's own (the library's tables laid as the program's text lays them). -/
import Derived.Test.YtemhfcgkfdklhaaDoorRows
import Derived.Test.YtemhfcgkfdklhaaDoorCards
import Derived.Test.YtemhfcgkfdklhaaDoorTie
import Derived.Test.YtemhfcgkfdklhaaDoorRowKT
import Derived.Test.YtemhfcgkfdklhaaDoorJoinW
import Derived.SizedLaws
import Derived.OpenShut
import Derived.Lib.SmallJoins
import Derived.ChangeSlices
import Derived.SevenTiedAt
namespace Go.Proofs.YtemhfcgkfdklhaaDoor.readJoins
open Go Go.ChangeShapes Go.WideShapes Go.ChangeAt Go.RowKit Go.Proofs.YtemhfcgkfdklhaaDoor.Look Go.Proofs.YtemhfcgkfdklhaaDoor.Rd
set_option linter.unusedVariables false

theorem laidOut : laidOutB Tryd.prog = true := by kernel_rfl
/-- A slice of bytes that came in: a row, its length within the reach. -/
theorem bytes_in {H : Type} {enc : TypeId × Value → H} {W : World} {ts : List TypeId} {ds : List (DataW H)} {j : Nat} {a : Option Addr} {len cap : Nat} {d : DataW H} {ps : List MemPlace}
    (hsz : (DataW.weightsEach Tryd.prog ts ds).all (· ≤ reachBytes) = true) (ht : ts[j]? = some 22) (hd : ds[j]? = some d) (h : DataW.Trod enc Tryd.prog W 0 (fun _ => true) true 22 (.slice a len cap) d ps) :
    ∃ l : List Int, InB W a len cap l := by
  obtain ⟨fuel, hf⟩ := h
  rcases open_ints Tryd.underlying22 Tryd.underlying5 (by kernel_rfl) hf with ⟨hcs, _⟩ | ⟨x, n, c, zs, hcs, _, hl, hm, hz, hx, hcell, hwz⟩
  · simp [Value.cells] at hcs
    obtain ⟨rfl, rfl, rfl⟩ := hcs
    exact ⟨[], fun h => absurd rfl h, rfl, ⟨Nat.le_refl _, by omega⟩, fun _ => rfl, by simp⟩
  · simp [Value.cells] at hcs
    obtain ⟨rfl, rfl, rfl⟩ := hcs
    have hz' : zs.length = cap := by simpa using hz
    have hlen : (zs.take len).length = len := by rw [List.length_take]; omega
    obtain ⟨hx, _⟩ := Prod.mk.inj hx
    subst hx
    have z := sized_slice hsz ht hd Tryd.underlying22
    rw [show Tryd.prog.bytesOf 5 = 1 by kernel_rfl] at z
    have z2 : zs.length * 1 ≤ 140737488351232 := by
      have h1 : (lits (H := H) .u8 (zs.take len)).length + (lits (H := H) .u8 (zs.drop len)).length = zs.length := by
        simp [lits]
        omega
      rw [h1] at z
      exact z
    have cells : ∀ (j : Nat) (y : Int), (zs.take len)[j]? = some y → W.cell? (x.add j) = some (.int .u8 y) := fun j y hg => by
      have hj := (List.getElem?_eq_some_iff.1 hg).1
      rw [hlen] at hj
      have := hcell j (by omega)
      rw [this]
      rw [List.getElem?_take, if_pos hj] at hg
      simp [List.getD_eq_getElem?_getD, hg]
    refine ⟨zs.take len, fun hne => ?_, hlen, ⟨by omega, by omega⟩, fun e => (by cases e), fun y hy => ?_⟩
    · have hpos : 0 < (zs.take len).length := List.length_pos_iff.2 hne
      have h0 := cells 0 _ (List.getElem?_eq_getElem hpos)
      have ha : x.add 0 = x := by unfold Addr.add; rw [if_pos rfl]
      rw [ha] at h0
      obtain ⟨hs, hb⟩ : x.spot = none ∧ x.block < W.heap.size := by
        unfold World.cell? at h0
        split at h0
        · rename_i c0 t0 f0 hh
          refine ⟨?_, (Array.getElem?_eq_some_iff.1 hh).1⟩
          split at h0
          · cases h0
          · rename_i hs
            simpa using hs
        · cases h0
      obtain ⟨xb, xo, xs⟩ := x
      simp only at hs hb
      subst hs
      refine ⟨xb, xo, rfl, hb, fun j y hj => ?_⟩
      have := cells j y hj
      rwa [Addr.add_lit] at this
    · have := hwz y (List.mem_of_mem_take hy)
      simp [Lit.wf] at this
      exact this
set_option maxRecDepth 100000 in
theorem lifted (os : Os) (started : os.Started) (H : Type) (enc : TypeId × Value → H) :
    ReturnsInHanded {} Tryd.checked os 3 .any (fun w args => (Rows.readJoinsSpec.pre enc Tryd.prog Tryd.f3 [] false w args ∧ laidMetH Tryd.prog laidAll w) ∧ sizedMet enc Tryd.prog Tryd.f3 (OpenSpec.ofChange Rows.readJoinsSpec) false w args)
      (Rows.readJoinsSpec.post enc Tryd.prog Tryd.f3 false true false false) := by
  refine returnsInHanded_of_change_and (C := Tryd.checked) (X := fun w _ => laidMetH Tryd.prog laidAll w) (fun _ _ _ hh h => h.of_heap hh) own started (by kernel_rfl) Tryd.func3
    (ChangeSpec.witness_shaped (enc := enc) (C := Tryd.checked) (os := os) (X := fun w _ => laidMetH Tryd.prog laidAll w) false (laidWorld os) #[.slice none 0 0, .slice none 0 0, .agg #[.int .i64 0, .int .i64 0]] 8 rfl (World.shaped_of_RefB (by kernel_rfl) (by kernel_rfl)) (by kernel_rfl) (by kernel_rfl) (by kernel_rfl)
      (by rw [MakeChecks.laidMetH_plain _ _ _ (by kernel_rfl)]; exact door_met os _)) ?_
  intro W base args ds gs before hval0 hW _ hsz0 hL _
  have hsz : (DataW.weightsEach Tryd.prog (Tryd.f3.params.toList ++ Rows.readJoinsSpec.plain.varTypes Tryd.prog) (ds ++ gs)).all (· ≤ reachBytes) = true := hsz0
  have hval : ∀ (j : Nat) t v, Tryd.f3.params[j]? = some t → args[j]? = some v → Value.okWide Tryd.prog W .any base t v := hval0
  have hW' := hW
  obtain ⟨p, q, hA0, hV, rfl, hfz, hnd⟩ := hW
  have hA : DataW.TrodAll enc Tryd.prog W 0 (fun _ => true) true Tryd.f3.params.toList args.toList ds p := hA0
  rw [Tryd.params3] at hA hval hsz
  obtain ⟨v0, vs0, d0, ds0, p0, q0, hargs, rfl, rfl, h0, r0⟩ := trodAll_cons hA
  obtain ⟨v1, vs1, d1, ds1, p1, q1, rfl, rfl, rfl, h1, r1⟩ := trodAll_cons r0
  obtain ⟨v2, vs2, d2, ds2, p2, q2, rfl, rfl, rfl, h2, r2⟩ := trodAll_cons r1
  obtain ⟨rfl, rfl, rfl⟩ := trodAll_nil r2
  obtain rfl : args = #[v0, v1, v2] := by cases args; simp_all
  obtain ⟨rfl, rfl⟩ := trodVars_none hV
  obtain ⟨a0, len0, cap0, rfl⟩ := okWide_slice Tryd.underlying22 (hval 0 22 v0 rfl rfl)
  have k0 := h0
  have lt0 : ∀ x ∈ p0, x.block < W.heap.size := by obtain ⟨m, hm⟩ := k0; exact DataW.trod_lt m _ _ _ hm
  obtain ⟨l0, s0⟩ := bytes_in hsz (j := 0) rfl rfl h0
  obtain ⟨a1, len1, cap1, rfl⟩ := okWide_slice Tryd.underlying22 (hval 1 22 v1 rfl rfl)
  have k1 := h1
  have lt1 : ∀ x ∈ p1, x.block < W.heap.size := by obtain ⟨m, hm⟩ := k1; exact DataW.trod_lt m _ _ _ hm
  obtain ⟨l1, s1⟩ := bytes_in hsz (j := 1) rfl rfl h1
  obtain ⟨c2, e2, f2, g2, m2, rfl, rfl, rfl, hf2, hg2⟩ := Joins.open_agg2 Tryd.underlying24 (by kernel_rfl) (by kernel_rfl) (hval 2 24 v2 rfl rfl) h2
  obtain ⟨a2, ea2, rfl, w2⟩ := DataW.trod_int Tryd.underlying3 hf2
  obtain ⟨b2, eb2, rfl, x2⟩ := DataW.trod_int Tryd.underlying3 hg2
  simp at ea2 eb2
  subst ea2 eb2
  rw [MakeChecks.laidMetH_plain _ _ _ (by kernel_rfl)] at hL
  clear hA0 hval0 hsz0 hsz
  refine (joinsW s0 s1 a2 b2 (tabs_of_laid hL)).mono fun e W' ⟨he, bel⟩ => ?_
  subst he
  exact ⟨_, rfl, _, _, _, [], _, [], hW', trodAll_mk1 (shut_bool Tryd.underlying4 _), (trodAll_cons_mk (Below.trod laidOut (by kernel_rfl) (of_decide_eq_true (by kernel_rfl)) k0 bel lt0) (trodAll_cons_mk (Below.trod laidOut (by kernel_rfl) (of_decide_eq_true (by kernel_rfl)) k1 bel lt1) (trodAll_cons_mk (Joins.shut_agg2 (y0 := (.lit (.int .i64 a2), [])) (y1 := (.lit (.int .i64 b2), [])) Tryd.underlying24 (by kernel_rfl) (by kernel_rfl) (shut_int Tryd.underlying3 w2) (shut_int Tryd.underlying3 x2)) trodAll_mk0))), rfl, bel.frame _, fun h => by cases h⟩
theorem row : Rows.ReadJoinsSaid :=
  OpenClaim.holds_of_wide 3 Tryd.f3 rfl rfl rfl rfl rfl rfl rfl ⟨rfl, rfl, rfl, rfl, rfl⟩ rfl rfl rfl rfl rfl (by kernel_rfl) Tryd.func3 (by kernel_rfl)
    (of_decide_eq_true (by kernel_rfl)) (by unfold Func.isWrapper; first | (rw [if_pos (by decide +kernel)]; kernel_rfl) | (rw [if_neg (by decide +kernel)]; exact ⟨rfl, rfl⟩))
    (fun os started H enc _ => lifted os started H enc)
theorem card : Rows.ReadJoinsCardSaid :=
  Claim7.holds_tied_plain_at .later [] [.data, .data, .data, .data, .sentinel, .sentinel, .listed, .data, .pinned] true (true, "68f6c08d66ee96321f35245c94560231c2fc7fdbd0bc7b9d41d27b7bd0b8bf22") true
    row (fun _ h => by cases h) (by kernel_rfl) (fun _ h => by cases h) readJoins_row_tie rfl ⟨rfl, rfl⟩ (by kernel_rfl) rfl
    (fun f fn hf hfn => by
      obtain rfl : f = 3 := Option.some.inj ((show Tryd.prog.funcNamed "amanuensis/amanuensislaw15.ReadJoins" = some 3 by kernel_rfl).symm.trans hf) |>.symm
      obtain rfl : fn = Tryd.f3 := (Option.some.inj (Tryd.func3.symm.trans hfn)).symm
      exact ⟨by kernel_rfl, fun j t ht => by
        rw [Tryd.params3] at ht
        have hm : t ∈ [22, 22, 24] := by have := Array.mem_of_getElem? ht; simpa using this
        have hall : ([22, 22, 24].all fun u => !Tryd.prog.wantsStandIn u) = true := by kernel_rfl
        exact (show Tryd.prog.wantsStandIn t = false by simpa using List.all_eq_true.1 hall t hm)⟩)
    (by kernel_rfl)
end Go.Proofs.YtemhfcgkfdklhaaDoor.readJoins
namespace Go.Proofs.YtemhfcgkfdklhaaDoor
theorem readJoins_holds : Rows.ReadJoinsCardSaid := readJoins.card
#print axioms readJoins_holds
end Go.Proofs.YtemhfcgkfdklhaaDoor
