/- NfcSame holds: the row and the card. Conditions: the card's own (the library's tables laid as the program's text lays them). -/
import Derived.Test.YtkadmnabhoijdaaGreatDoorRows
import Derived.Test.YtkadmnabhoijdaaGreatDoorCards
import Derived.Test.YtkadmnabhoijdaaGreatDoorTie
import Derived.Test.YtkadmnabhoijdaaGreatDoorRowK
import Derived.Test.YtkadmnabhoijdaaGreatDoorCSame
import Derived.SizedLaws
import Derived.ChangeSlices
import Derived.SevenTiedAt
namespace Go.Proofs.YtkadmnabhoijdaaGreatDoor.nfcSame
open Go Go.ChangeShapes Go.WideShapes Go.ChangeAt Go.RowKit Go.Proofs.YtkadmnabhoijdaaGreatDoor.Look Go.Proofs.YtkadmnabhoijdaaGreatDoor.Nfd
set_option linter.unusedVariables false

theorem u8_wf {a : Int} (h : (Lit.int .u8 a).wf = true) : 0 ≤ a ∧ a ≤ 255 := by
  simp [Lit.wf] at h
  exact h
theorem laidOut : laidOutB Tryz.prog = true := by kernel_rfl
/-- A slice of runes that came in: a row, its length within the reach. -/
theorem slice_in {H : Type} {enc : TypeId × Value → H} {W : World} {ts : List TypeId} {ds : List (DataW H)} {j : Nat} {a : Option Addr} {len cap : Nat} {d : DataW H} {ps : List MemPlace}
    (hsz : (DataW.weightsEach Tryz.prog ts ds).all (· ≤ reachBytes) = true) (ht : ts[j]? = some 22) (hd : ds[j]? = some d) (h : DataW.Trod enc Tryz.prog W 0 (fun _ => true) true 22 (.slice a len cap) d ps) :
    ∃ l : List Int, SlN W (.slice a len cap) l ∧ l.length = len ∧ l.length ≤ 35184372087808 ∧ ∀ x ∈ l, -2147483648 ≤ x ∧ x ≤ 2147483647 := by
  obtain ⟨fuel, hf⟩ := h
  rcases open_ints Tryz.underlying22 Tryz.underlying21 (by kernel_rfl) hf with ⟨hcs, _⟩ | ⟨x, n, c, zs, hcs, _, hl, hm, hz, hx, hcell, hwz⟩
  · simp [Value.cells] at hcs
    obtain ⟨rfl, rfl, rfl⟩ := hcs
    exact ⟨[], .inr ⟨rfl, rfl⟩, rfl, by simp, by simp⟩
  · simp [Value.cells] at hcs
    obtain ⟨rfl, rfl, rfl⟩ := hcs
    have hz' : zs.length = cap := by simpa using hz
    have hlen : (zs.take len).length = len := by rw [List.length_take]; omega
    obtain ⟨hx, _⟩ := Prod.mk.inj hx
    subst hx
    have z := sized_slice hsz ht hd Tryz.underlying22
    rw [show Tryz.prog.bytesOf 21 = 4 by kernel_rfl] at z
    have z2 : zs.length * 4 ≤ 140737488351232 := by
      have h1 : (lits (H := H) .i32 (zs.take len)).length + (lits (H := H) .i32 (zs.drop len)).length = zs.length := by
        simp [lits]
        omega
      rw [h1] at z
      exact z
    have cells : ∀ (j : Nat) (u : Value), ((zs.take len).map enc32)[j]? = some u → W.cell? (x.add j) = some u := fun j u hu => by
      rw [List.getElem?_map] at hu
      cases hg : (zs.take len)[j]? with
      | none => rw [hg] at hu; simp at hu
      | some y =>
        rw [hg] at hu; simp at hu; rw [← hu]
        have hj := (List.getElem?_eq_some_iff.1 hg).1
        rw [hlen] at hj
        have := hcell j (by omega)
        rw [this]
        rw [List.getElem?_take, if_pos hj] at hg
        simp [List.getD_eq_getElem?_getD, hg, enc32]
    refine ⟨zs.take len, .inl ⟨x, cap, by rw [hlen], fun hne => ?_, cells⟩, hlen, by omega, fun y hy => ?_⟩
    · have hpos : 0 < (zs.take len).length := List.length_pos_iff.2 hne
      have := cells 0 _ (by rw [List.getElem?_map, List.getElem?_eq_getElem hpos]; rfl)
      have ha : x.add 0 = x := by unfold Addr.add; rw [if_pos rfl]
      rw [ha] at this
      unfold World.cell? at this
      split at this
      · rename_i c0 t0 f0 hh
        refine ⟨?_, (Array.getElem?_eq_some_iff.1 hh).1⟩
        split at this
        · cases this
        · rename_i hs
          simpa using hs
      · cases this
    · have := hwz y (List.mem_of_mem_take hy)
      simp [Lit.wf] at this
      exact this
set_option maxRecDepth 100000 in
theorem lifted (os : Os) (started : os.Started) (H : Type) (enc : TypeId × Value → H) :
    ReturnsInHanded {} Tryz.checked os 3 .any (fun w args => (Rows.nfcSameSpec.pre enc Tryz.prog Tryz.f3 [] false w args ∧ laidMetH Tryz.prog laidAll w) ∧ sizedMet enc Tryz.prog Tryz.f3 (OpenSpec.ofChange Rows.nfcSameSpec) false w args)
      (Rows.nfcSameSpec.post enc Tryz.prog Tryz.f3 false true false false) := by
  refine returnsInHanded_of_change_and (C := Tryz.checked) (X := fun w _ => laidMetH Tryz.prog laidAll w) (fun _ _ _ hh h => h.of_heap hh) own started (by kernel_rfl) Tryz.func3
    (ChangeSpec.witness_shaped (enc := enc) (C := Tryz.checked) (os := os) (X := fun w _ => laidMetH Tryz.prog laidAll w) false (laidWorld os) #[.slice none 0 0, .slice none 0 0, .int .u8 0] 8 rfl (World.shaped_of_RefB (by kernel_rfl) (by kernel_rfl)) (by kernel_rfl) (by kernel_rfl) (by kernel_rfl)
      (by rw [MakeChecks.laidMetH_plain _ _ _ (by kernel_rfl)]; exact door_met os _)) ?_
  intro W base args ds gs before hval0 hW _ hsz0 hL _
  have hsz : (DataW.weightsEach Tryz.prog (Tryz.f3.params.toList ++ Rows.nfcSameSpec.plain.varTypes Tryz.prog) (ds ++ gs)).all (· ≤ reachBytes) = true := hsz0
  have hval : ∀ (j : Nat) t v, Tryz.f3.params[j]? = some t → args[j]? = some v → Value.okWide Tryz.prog W .any base t v := hval0
  have hW' := hW
  obtain ⟨p, q, hA0, hV, rfl, hfz, hnd⟩ := hW
  have hA : DataW.TrodAll enc Tryz.prog W 0 (fun _ => true) true Tryz.f3.params.toList args.toList ds p := hA0
  rw [Tryz.params3] at hA hval hsz
  obtain ⟨v0, vs0, d0, ds0, p0, q0, hargs, rfl, rfl, h0, r0⟩ := trodAll_cons hA
  obtain ⟨v1, vs1, d1, ds1, p1, q1, rfl, rfl, rfl, h1, r1⟩ := trodAll_cons r0
  obtain ⟨v2, vs2, d2, ds2, p2, q2, rfl, rfl, rfl, h2, r2⟩ := trodAll_cons r1
  obtain ⟨rfl, rfl, rfl⟩ := trodAll_nil r2
  obtain rfl : args = #[v0, v1, v2] := by cases args; simp_all
  obtain ⟨rfl, rfl⟩ := trodVars_none hV
  obtain ⟨a0, len0, cap0, rfl⟩ := okWide_slice Tryz.underlying22 (hval 0 22 v0 rfl rfl)
  have k0 := h0
  have lt0 : ∀ x ∈ p0, x.block < W.heap.size := by obtain ⟨m, hm⟩ := k0; exact DataW.trod_lt m _ _ _ hm
  obtain ⟨l0, s0, e0, n0, g0⟩ := slice_in hsz (j := 0) rfl rfl h0
  obtain ⟨a1, len1, cap1, rfl⟩ := okWide_slice Tryz.underlying22 (hval 1 22 v1 rfl rfl)
  have k1 := h1
  have lt1 : ∀ x ∈ p1, x.block < W.heap.size := by obtain ⟨m, hm⟩ := k1; exact DataW.trod_lt m _ _ _ hm
  obtain ⟨l1, s1, e1, n1, g1⟩ := slice_in hsz (j := 1) rfl rfl h1
  obtain ⟨a2, rfl, rfl, rfl, w2⟩ := open_int Tryz.underlying5 (hval 2 5 v2 rfl rfl) h2
  rw [MakeChecks.laidMetH_plain _ _ _ (by kernel_rfl)] at hL
  clear hA0 hval0 hsz0 hsz
  refine (nfcSameW _ l0 s0 n0 g0 _ l1 s1 n1 g1 a2 (u8_wf w2).1 (u8_wf w2).2 W (tabs_of_laid hL)).mono fun e W' ⟨he, bel⟩ => ?_
  subst he
  exact ⟨_, rfl, _, _, _, [], _, [], hW', trodAll_mk1 (shut_bool Tryz.underlying4 _), (trodAll_cons_mk (Below.trod laidOut (by kernel_rfl) (of_decide_eq_true (by kernel_rfl)) k0 bel lt0) (trodAll_cons_mk (Below.trod laidOut (by kernel_rfl) (of_decide_eq_true (by kernel_rfl)) k1 bel lt1) (trodAll_cons_mk (shut_int Tryz.underlying5 w2) trodAll_mk0))), rfl, bel.frame _, fun h => by cases h⟩
theorem row : Rows.NfcSameSaid :=
  OpenClaim.holds_of_wide 3 Tryz.f3 rfl rfl rfl rfl rfl rfl rfl ⟨rfl, rfl, rfl, rfl, rfl⟩ rfl rfl rfl rfl rfl (by kernel_rfl) Tryz.func3 (by kernel_rfl)
    (of_decide_eq_true (by kernel_rfl)) (by unfold Func.isWrapper; first | (rw [if_pos (by decide +kernel)]; kernel_rfl) | (rw [if_neg (by decide +kernel)]; exact ⟨rfl, rfl⟩))
    (fun os started H enc _ => lifted os started H enc)
theorem card : Rows.NfcSameCardSaid :=
  Claim7.holds_tied_plain_at .later [] [.data, .data, .data, .data, .sentinel, .sentinel, .listed, .data, .pinned] true (true, "5181462bbb6a67e091064025e2abc262bbdd4fc1ac4d921e039da7a92f897a08") true
    row (fun _ h => by cases h) (by kernel_rfl) (fun _ h => by cases h) nfcSame_row_tie rfl ⟨rfl, rfl⟩ (by kernel_rfl) rfl
    (fun f fn hf hfn => by
      obtain rfl : f = 3 := Option.some.inj ((show Tryz.prog.funcNamed "amanuensis/amanuensislaw07.NfcSame" = some 3 by kernel_rfl).symm.trans hf) |>.symm
      obtain rfl : fn = Tryz.f3 := (Option.some.inj (Tryz.func3.symm.trans hfn)).symm
      exact ⟨by kernel_rfl, fun j t ht => by
        rw [Tryz.params3] at ht
        have hm : t ∈ [22, 22, 5] := by have := Array.mem_of_getElem? ht; simpa using this
        have hall : ([22, 22, 5].all fun u => !Tryz.prog.wantsStandIn u) = true := by kernel_rfl
        exact (show Tryz.prog.wantsStandIn t = false by simpa using List.all_eq_true.1 hall t hm)⟩)
    (by kernel_rfl)
end Go.Proofs.YtkadmnabhoijdaaGreatDoor.nfcSame
namespace Go.Proofs.YtkadmnabhoijdaaGreatDoor
theorem nfcSame_holds : Rows.NfcSameCardSaid := nfcSame.card
#print axioms nfcSame_holds
end Go.Proofs.YtkadmnabhoijdaaGreatDoor
