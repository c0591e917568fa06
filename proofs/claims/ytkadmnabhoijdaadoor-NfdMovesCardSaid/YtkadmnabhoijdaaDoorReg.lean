/- A region that draws its order, by an invariant over what is done already; inside a round of a range over a function, too. Any program. -/
import Derived.OrdersIn
import Derived.TacticsIn
import Derived.Maps.OwnIn
namespace Go.Proofs.YtkadmnabhoijdaaDoor.Reg
open Go
variable {F : Fence} {n : Nat} {P : Program} {ops : Array Oper} {Q : Exit → Act → World → Prop}

/-- Each operation waits for earlier ones alone. -/
def Early (ops : Array Oper) : Bool := (List.range ops.size).all fun i => match ops[i]? with
  | some o => o.after.all fun e => decide (e.on < i)
  | none => true

theorem listed_all (listed : Array Bool) (he : Early ops = true) (hs : listed.size = ops.size) (hr : Region.ready .any ops listed = []) : listed = Array.replicate ops.size true := by
  have key : ∀ i, i < ops.size → listed[i]? = some true := by
    intro i
    induction i using Nat.strongRecOn with
    | _ i ih =>
      intro hi
      obtain ⟨b, hb⟩ : ∃ b, listed[i]? = some b := ⟨_, Array.getElem?_eq_getElem (by omega)⟩
      cases b with
      | true => exact hb
      | false =>
        exfalso
        have hm : i ∈ Region.ready .any ops listed := by
          unfold Region.ready
          refine List.mem_filter.2 ⟨List.mem_range.2 hi, ?_⟩
          obtain ⟨o, ho⟩ : ∃ o, ops[i]? = some o := ⟨_, Array.getElem?_eq_getElem hi⟩
          have hE := List.all_eq_true.1 he i (List.mem_range.2 hi)
          rw [ho] at hE ⊢
          simp only [Array.getD_eq_getD_getElem?, hb, Option.getD_some, Bool.not_false, Bool.true_and, Option.map_some]
          rw [Array.all_eq_true'] at hE ⊢
          intro e hmem
          have hlt : e.on < i := of_decide_eq_true (hE e hmem)
          rw [ih e.on hlt (by omega)]
          simp
        rw [hr] at hm
        cases hm
  refine Array.ext_getElem? fun i => ?_
  by_cases hi : i < ops.size
  · rw [key i hi, Array.getElem?_replicate, if_pos hi]
  · rw [Array.getElem?_eq_none (by omega), Array.getElem?_eq_none (by simp; omega)]

theorem anyInv (J : Array Bool → Act → World → Prop) (he : Early ops = true)
    (hstep : ∀ listed a w i, J listed a w → i < ops.size → listed[i]? = some false → (∀ o, ops[i]? = some o → ∀ e ∈ o.after, Region.binds .any e = true → listed[e.on]? = some true) →
      wpOpIn F n P ops Q i (fun a' w' => J (listed.setIfInBounds i true) a' w') a w)
    (hdone : ∀ a w, J (Array.replicate ops.size true) a w → Q .normal a w) :
    ∀ fuel listed a w, listed.size = ops.size → ops.size ≤ fuel + listed.toList.count true → J listed a w → wpAnyIn F n P .any ops Q fuel listed a w := by
  intro fuel
  induction fuel with
  | zero =>
    intro listed a w hs hf hJ
    have hall : Region.ready .any ops listed = [] := by
      unfold Region.ready
      refine List.filter_eq_nil_iff.2 fun i hi => ?_
      have hi' := List.mem_range.1 hi
      have hc : ∀ x ∈ listed.toList, x = true := by
        have h1 : listed.toList.length = listed.size := by simp
        have : listed.toList.count true = listed.toList.length := Nat.le_antisymm List.count_le_length (by omega)
        intro x hx
        exact (List.count_eq_length.1 this x hx).symm
      have : listed[i]? = some true := by
        obtain ⟨b, hb⟩ : ∃ b, listed[i]? = some b := ⟨_, Array.getElem?_eq_getElem (by omega)⟩
        rw [hb, hc b (by have := Array.mem_of_getElem? hb; simpa using this)]
      simp [Array.getD_eq_getD_getElem?, this]
    exact ⟨hall, hdone _ _ (listed_all listed he hs hall ▸ hJ)⟩
  | succ fuel ih =>
    intro listed a w hs hf hJ
    refine ⟨fun hr => hdone _ _ (listed_all listed he hs hr ▸ hJ), fun i hi => ?_⟩
    have hi2 := List.mem_filter.1 hi
    have hlt := List.mem_range.1 hi2.1
    have hb := hi2.2
    simp only [Bool.and_eq_true, Bool.not_eq_true', Array.getD_eq_getD_getElem?] at hb
    obtain ⟨b, hbb⟩ : ∃ b, listed[i]? = some b := ⟨_, Array.getElem?_eq_getElem (by omega)⟩
    have hfalse : listed[i]? = some false := by
      rw [hbb] at hb ⊢
      simpa using hb.1
    refine wpOpIn_mono ?_ (hstep listed a w i hJ hlt hfalse ?_)
    · intro a' w' hJ'
      refine ih _ _ _ (by simp [hs]) ?_ hJ'
      have hcnt : (listed.setIfInBounds i true).toList.count true = listed.toList.count true + 1 := by
        have hil : i < listed.toList.length := by simp; omega
        have hget : listed.toList[i]'hil = false := by
          have := hfalse
          rw [Array.getElem?_eq_getElem (by omega)] at this
          simpa using this
        rw [Array.toList_setIfInBounds, List.count_set hil]
        simp [hget]
      omega
    · intro o ho e hmem hbind
      have h2 := hb.2
      rw [ho] at h2
      simp only [Option.map_some, Option.getD_some] at h2
      rw [Array.all_eq_true'] at h2
      have h3 := h2 e hmem
      rw [hbind] at h3
      simp only [Bool.not_true, Bool.false_or] at h3
      cases hl : listed[e.on]? with
      | none => rw [hl] at h3; simp at h3
      | some c => rw [hl] at h3; simp at h3; rw [h3]

/-- For which operations each waits, in any mode. -/
def waits (ops : Array Oper) : List (List Nat) := (List.range ops.size).map fun i => ((ops[i]?).map fun o => (o.after.toList.filter (Region.binds .any)).map (·.on)).getD []

/-- The region, by the invariant. -/
theorem region {id : Nat} (D : List (List Nat)) (J : Array Bool → Act → World → Prop) (hm : P.follows .mixedOrders = true) (he : Early ops = true) (hD : waits ops = D)
    (hstep : ∀ listed a w i, J listed a w → i < ops.size → listed[i]? = some false → (∀ d ∈ D.getD i [], listed[d]? = some true) →
      wpOpIn F n P ops Q i (fun a' w' => J (listed.setIfInBounds i true) a' w') a w)
    (hdone : ∀ a w, J (Array.replicate ops.size true) a w → Q .normal a w) {a : Act} {w : World} (h0 : J (Array.replicate ops.size false) a w.drew) : (Code.region id ops true).wpIn F n P Q a w := by
  refine wpIn_region_any hm (anyInv J he (fun listed a w i hJ hi hf hdep => hstep listed a w i hJ hi hf ?_) hdone _ _ _ _ (by simp) (by simp) h0)
  intro d hd
  obtain ⟨o, ho⟩ : ∃ o, ops[i]? = some o := ⟨_, Array.getElem?_eq_getElem hi⟩
  have e : (waits ops).getD i [] = (o.after.toList.filter (Region.binds .any)).map (·.on) := by
    unfold waits
    rw [List.getD_eq_getElem?_getD, List.getElem?_map, List.getElem?_range hi]
    simp [ho]
  rw [← hD, e] at hd
  obtain ⟨x, hx, rfl⟩ := List.mem_map.1 hd
  have hx2 := List.mem_filter.1 hx
  exact hdep o ho x (by simpa using hx2.1) hx2.2

/-- An append to a row of the call's own, as an operation of such a region. -/
theorem wpOpIn_append {j : Nat} {o : Oper} {a : Act} {w : World} {K : Act → World → Prop} (hi0 : ops[j]? = some o) (hgd : o.guard = none) (s x : Operand) (t : TypeId)
    (ho : o.op = .call { callee := .builtin .append, args := #[s, x], argTypes := #[t, t] })
    (base : Nat) (e : TypeId) (i : TypeInfo) (z : Value) (size bytes : Nat) (ht : P.underlying t = some (.slice e)) (hi : P.info? e = some i) (hz : i.zero = some z)
    (hsize : i.size = size) (hby : i.bytes = bytes) (hzs : z.cells.size = size) (hsz : 0 < size)
    (v : Value) (m0 : Nat) (xs : List Value) (hs : a.eval s = v) (hown : w.ownsRow base e size v m0 xs)
    (ad : Addr) (m c : Nat) (news : List Value) (hx : a.eval x = .slice (some ad) m c) (hl : news.length = m * size) (hnews : ∀ j u, news[j]? = some u → w.cell? (ad.add j) = some u) (h1 : ∀ u ∈ news, u.oneCell' = true)
    (h63 : m0 + m ≤ maxLen) (hbytes : (m0 + m) * bytes ≤ 140737488355328) (hbase : base ≤ w.heap.size)
    (h : ∀ v' w', w'.ownsRow base e size v' (m0 + m) (xs ++ news) → w.grownBy w' v.ownBlock → (v' = .slice none 0 0 ↔ v = .slice none 0 0 ∧ m = 0) → (v'.ownBlock = v.ownBlock ∨ v'.ownBlock = some w.heap.size) → K (a.put o.dst v') w') :
    wpOpIn F n P ops Q j K a w := by
  refine wpOpIn_step hi0 (fun K' hK' => ?_)
  rw [if_pos (by simp [Region.wanted, hgd])]
  obtain ⟨v', w', hr, h2, h3, h4, h5⟩ := run_append_own_at (P := P) w base t o.type e i z size bytes ht hi hz hsize hby hzs hsz v m0 xs hown ad m c news hl hnews h1 h63 hbytes hbase
  unfold Oper.wpIn
  refine ⟨by simp [Oper.about, ho, resolve, Target.leads, Sem.run_pure], ?_⟩
  rw [Oper.semAt_plain F _ _ (by rw [ho]; intro c hc'; cases hc')]
  simp [execOp, ho, resolve, invoke, builtin, hs, hx, hr, Result.andThen]
  exact hK' _ _ (h v' w' h2 h3 h4 h5)
end Go.Proofs.YtkadmnabhoijdaaDoor.Reg
