/- NfdMoves holds: the row and the card. Conditions: the card's own (the library's tables laid as the program's text lays them). -/
import Derived.Test.YtkadmnabhoijdaaDoorRows
import Derived.Test.YtkadmnabhoijdaaDoorCards
import Derived.Test.YtkadmnabhoijdaaDoorTie
import Derived.Test.YtkadmnabhoijdaaDoorRowK
import Derived.Test.YtkadmnabhoijdaaDoorNMovL
import Derived.SizedLaws
import Derived.ChangeSlices
import Derived.SevenTiedAt
namespace Go.Proofs.YtkadmnabhoijdaaDoor.nfdMoves
open Go Go.ChangeShapes Go.WideShapes Go.ChangeAt Go.RowKit Go.Proofs.YtkadmnabhoijdaaDoor.Look Go.Proofs.YtkadmnabhoijdaaDoor.Nfd
set_option linter.unusedVariables false

theorem i32_wf {a : Int} (h : (Lit.int .i32 a).wf = true) : -2147483648 ≤ a ∧ a ≤ 2147483647 := by
  simp [Lit.wf] at h
  exact h
theorem u8_wf {a : Int} (h : (Lit.int .u8 a).wf = true) : 0 ≤ a ∧ a ≤ 255 := by
  simp [Lit.wf] at h
  exact h
theorem laidOut : laidOutB Tryd.prog = true := by kernel_rfl
/-- A slice of runes that came in: a row, its length within the reach. -/
theorem slice_in {H : Type} {enc : TypeId × Value → H} {W : World} {ts : List TypeId} {ds : List (DataW H)} {j : Nat} {a : Option Addr} {len cap : Nat} {d : DataW H} {ps : List MemPlace}
    (hsz : (DataW.weightsEach Tryd.prog ts ds).all (· ≤ reachBytes) = true) (ht : ts[j]? = some 22) (hd : ds[j]? = some d) (h : DataW.Trod enc Tryd.prog W 0 (fun _ => true) true 22 (.slice a len cap) d ps) :
    ∃ l : List Int, SlN W (.slice a len cap) l ∧ l.length = len ∧ l.length ≤ 35184372087808 ∧ ∀ x ∈ l, -2147483648 ≤ x ∧ x ≤ 2147483647 := by
  obtain ⟨fuel, hf⟩ := h
  rcases open_ints Tryd.underlying22 Tryd.underlying21 (by kernel_rfl) hf with ⟨hcs, _⟩ | ⟨x, n, c, zs, hcs, _, hl, hm, hz, hx, hcell, hwz⟩
  · simp [Value.cells] at hcs
    obtain ⟨rfl, rfl, rfl⟩ := hcs
    exact ⟨[], .inr ⟨rfl, rfl⟩, rfl, by simp, by simp⟩
  · simp [Value.cells] at hcs
    obtain ⟨rfl, rfl, rfl⟩ := hcs
    have hz' : zs.length = cap := by simpa using hz
    have hlen : (zs.take len).length = len := by rw [List.length_take]; omega
    obtain ⟨hx, _⟩ := Prod.mk.inj hx
    subst hx
    have z := sized_slice hsz ht hd Tryd.underlying22
    rw [show Tryd.prog.bytesOf 21 = 4 by kernel_rfl] at z
    have z2 : zs.length * 4 ≤ 140737488351232 := by
      have h1 : (lits (H := H) .i32 (zs.take len)).length + (lits (H := H) .i32 (zs.drop len)).length = zs.length := by
        simp [lits]
        omega
      rw [h1] at z
      exact z
    have cells : ∀ (j : Nat) (u : Value), ((zs.take len).map enc32)[j]? = some u → W.cell? (x.add j) = some u := fun j u hu => by
      rw [List.getElem?_map] at hu
      cases hg : (zs.take len)[j]? with
      | none => rw [hg] at hu; simp at hu
      | some y =>
        rw [hg] at hu; simp at hu; rw [← hu]
        have hj := (List.getElem?_eq_some_iff.1 hg).1
        rw [hlen] at hj
        have := hcell j (by omega)
        rw [this]
        rw [List.getElem?_take, if_pos hj] at hg
        simp [List.getD_eq_getElem?_getD, hg, enc32]
    refine ⟨zs.take len, .inl ⟨x, cap, by rw [hlen], fun hne => ?_, cells⟩, hlen, by omega, fun y hy => ?_⟩
    · have hpos : 0 < (zs.take len).length := List.length_pos_iff.2 hne
      have := cells 0 _ (by rw [List.getElem?_map, List.getElem?_eq_getElem hpos]; rfl)
      have ha : x.add 0 = x := by unfold Addr.add; rw [if_pos rfl]
      rw [ha] at this
      unfold World.cell? at this
      split at this
      · rename_i c0 t0 f0 hh
        refine ⟨?_, (Array.getElem?_eq_some_iff.1 hh).1⟩
        split at this
        · cases this
        · rename_i hs
          simpa using hs
      · cases this
    · have := hwz y (List.mem_of_mem_take hy)
      simp [Lit.wf] at this
      exact this
set_option maxRecDepth 100000 in
theorem lifted (os : Os) (started : os.Started) (H : Type) (enc : TypeId × Value → H) :
    ReturnsInHanded {} Tryd.checked os 6 .any (fun w args => (Rows.nfdMovesSpec.pre enc Tryd.prog Tryd.f6 [] false w args ∧ laidMetH Tryd.prog laidAll w) ∧ sizedMet enc Tryd.prog Tryd.f6 (OpenSpec.ofChange Rows.nfdMovesSpec) false w args)
      (Rows.nfdMovesSpec.post enc Tryd.prog Tryd.f6 false true false false) := by
  refine returnsInHanded_of_change_and (C := Tryd.checked) (X := fun w _ => laidMetH Tryd.prog laidAll w) (fun _ _ _ hh h => h.of_heap hh) own started (by kernel_rfl) Tryd.func6
    (ChangeSpec.witness_shaped (enc := enc) (C := Tryd.checked) (os := os) (X := fun w _ => laidMetH Tryd.prog laidAll w) false (laidWorld os) #[.int .i32 0, .slice none 0 0, .int .u8 0] 8 rfl (World.shaped_of_RefB (by kernel_rfl) (by kernel_rfl)) (by kernel_rfl) (by kernel_rfl) (by kernel_rfl)
      (by rw [MakeChecks.laidMetH_plain _ _ _ (by kernel_rfl)]; exact door_met os _)) ?_
  intro W base args ds gs before hval0 hW _ hsz0 hL _
  have hsz : (DataW.weightsEach Tryd.prog (Tryd.f6.params.toList ++ Rows.nfdMovesSpec.plain.varTypes Tryd.prog) (ds ++ gs)).all (· ≤ reachBytes) = true := hsz0
  have hval : ∀ (j : Nat) t v, Tryd.f6.params[j]? = some t → args[j]? = some v → Value.okWide Tryd.prog W .any base t v := hval0
  have hW' := hW
  obtain ⟨p, q, hA0, hV, rfl, hfz, hnd⟩ := hW
  have hA : DataW.TrodAll enc Tryd.prog W 0 (fun _ => true) true Tryd.f6.params.toList args.toList ds p := hA0
  rw [Tryd.params6] at hA hval hsz
  obtain ⟨v0, vs0, d0, ds0, p0, q0, hargs, rfl, rfl, h0, r0⟩ := trodAll_cons hA
  obtain ⟨v1, vs1, d1, ds1, p1, q1, rfl, rfl, rfl, h1, r1⟩ := trodAll_cons r0
  obtain ⟨v2, vs2, d2, ds2, p2, q2, rfl, rfl, rfl, h2, r2⟩ := trodAll_cons r1
  obtain ⟨rfl, rfl, rfl⟩ := trodAll_nil r2
  obtain rfl : args = #[v0, v1, v2] := by cases args; simp_all
  obtain ⟨rfl, rfl⟩ := trodVars_none hV
  obtain ⟨a0, rfl, rfl, rfl, w0⟩ := open_int Tryd.underlying21 (hval 0 21 v0 rfl rfl) h0
  obtain ⟨a1, len1, cap1, rfl⟩ := okWide_slice Tryd.underlying22 (hval 1 22 v1 rfl rfl)
  have k1 := h1
  have lt1 : ∀ x ∈ p1, x.block < W.heap.size := by obtain ⟨m, hm⟩ := k1; exact DataW.trod_lt m _ _ _ hm
  obtain ⟨l1, s1, e1, n1, g1⟩ := slice_in hsz (j := 1) rfl rfl h1
  obtain ⟨a2, rfl, rfl, rfl, w2⟩ := open_int Tryd.underlying5 (hval 2 5 v2 rfl rfl) h2
  rw [MakeChecks.laidMetH_plain _ _ _ (by kernel_rfl)] at hL
  clear hA0 hval0 hsz0 hsz
  refine (nfdMovesW a0 (i32_wf w0).1 (i32_wf w0).2 _ l1 s1 n1 g1 a2 (u8_wf w2).1 (u8_wf w2).2 W (tabs_of_laid hL)).mono fun e W' ⟨he, bel⟩ => ?_
  subst he
  exact ⟨_, rfl, _, _, _, [], _, [], hW', trodAll_mk1 (shut_bool Tryd.underlying4 _), (trodAll_cons_mk (shut_int Tryd.underlying21 w0) (trodAll_cons_mk (Below.trod laidOut (by kernel_rfl) (of_decide_eq_true (by kernel_rfl)) k1 bel lt1) (trodAll_cons_mk (shut_int Tryd.underlying5 w2) trodAll_mk0))), rfl, bel.frame _, fun h => by cases h⟩
theorem row : Rows.NfdMovesSaid :=
  OpenClaim.holds_of_wide 6 Tryd.f6 rfl rfl rfl rfl rfl rfl rfl ⟨rfl, rfl, rfl, rfl, rfl⟩ rfl rfl rfl rfl rfl (by kernel_rfl) Tryd.func6 (by kernel_rfl)
    (of_decide_eq_true (by kernel_rfl)) (by unfold Func.isWrapper; first | (rw [if_pos (by decide +kernel)]; kernel_rfl) | (rw [if_neg (by decide +kernel)]; exact ⟨rfl, rfl⟩))
    (fun os started H enc _ => lifted os started H enc)
theorem card : Rows.NfdMovesCardSaid :=
  Claim7.holds_tied_plain_at .later [] [.data, .data, .data, .data, .sentinel, .sentinel, .listed, .data, .pinned] true (true, "705b9180f8638505e313b6feec5f89167ed0dc90272536cb67da1d8fd4eff183") true
    row (fun _ h => by cases h) (by kernel_rfl) (fun _ h => by cases h) nfdMoves_row_tie rfl ⟨rfl, rfl⟩ (by kernel_rfl) rfl
    (fun f fn hf hfn => by
      obtain rfl : f = 6 := Option.some.inj ((show Tryd.prog.funcNamed "amanuensis/amanuensislaw06.NfdMoves" = some 6 by kernel_rfl).symm.trans hf) |>.symm
      obtain rfl : fn = Tryd.f6 := (Option.some.inj (Tryd.func6.symm.trans hfn)).symm
      exact ⟨by kernel_rfl, fun j t ht => by
        rw [Tryd.params6] at ht
        have hm : t ∈ [21, 22, 5] := by have := Array.mem_of_getElem? ht; simpa using this
        have hall : ([21, 22, 5].all fun u => !Tryd.prog.wantsStandIn u) = true := by kernel_rfl
        exact (show Tryd.prog.wantsStandIn t = false by simpa using List.all_eq_true.1 hall t hm)⟩)
    (by kernel_rfl)
end Go.Proofs.YtkadmnabhoijdaaDoor.nfdMoves
namespace Go.Proofs.YtkadmnabhoijdaaDoor
theorem nfdMoves_holds : Rows.NfdMovesCardSaid := nfdMoves.card
#print axioms nfdMoves_holds
end Go.Proofs.YtkadmnabhoijdaaDoor
