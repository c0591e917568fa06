/- Stable sorting by a key, in plain lists: what a stable merge is, and that a list that is in order and keeps each key's elements in their turn is one alone. -/
namespace Go.Proofs.YtkadmnabhoijdaaDoor.Stab
variable (k : Int → Int)

/-- The elements of one key. -/
def ofKey (c : Int) (l : List Int) : List Int := l.filter fun x => decide (k x = c)
/-- In order. -/
def Asc (l : List Int) : Prop := l.Pairwise fun a b => k a ≤ k b
/-- Each key's elements stand in the same turn. -/
def Keeps (l l' : List Int) : Prop := ∀ c, ofKey k c l' = ofKey k c l
variable {k}

theorem ofKey_append (c : Int) (a b : List Int) : ofKey k c (a ++ b) = ofKey k c a ++ ofKey k c b := List.filter_append _ _
theorem ofKey_nil {c : Int} {l : List Int} (h : ∀ x ∈ l, k x ≠ c) : ofKey k c l = [] := List.filter_eq_nil_iff.2 fun x hx => by simpa using h x hx
theorem Keeps.refl (l : List Int) : Keeps k l l := fun _ => rfl
theorem Keeps.trans {a b c : List Int} (h : Keeps k a b) (g : Keeps k b c) : Keeps k a c := fun x => (g x).trans (h x)
theorem Keeps.append {a a' b b' : List Int} (h : Keeps k a a') (g : Keeps k b b') : Keeps k (a ++ b) (a' ++ b') := fun c => by rw [ofKey_append, ofKey_append, h c, g c]
theorem Keeps.mem {a b : List Int} (h : Keeps k a b) {x : Int} : x ∈ b ↔ x ∈ a := by
  have e := h (k x)
  have h1 : x ∈ ofKey k (k x) b ↔ x ∈ b := by simp [ofKey]
  have h2 : x ∈ ofKey k (k x) a ↔ x ∈ a := by simp [ofKey]
  rw [← h1, ← h2, e]
theorem Keeps.length {a b : List Int} (h : Keeps k a b) : b.length = a.length := by
  have key : ∀ (a b : List Int), Keeps k a b → a.length ≤ b.length := by
    intro a
    induction a with
    | nil => intro b _; simp
    | cons x a ih =>
      intro b h
      obtain ⟨s, t, rfl, hs⟩ : ∃ s t, b = s ++ x :: t ∧ ∀ y ∈ s, k y ≠ k x := by
        have hc := h (k x)
        have hb : ofKey k (k x) b = x :: ofKey k (k x) a := by rw [hc]; simp [ofKey]
        clear hc h
        induction b with
        | nil => simp [ofKey] at hb
        | cons y b ihb =>
          by_cases hy : k y = k x
          · have : ofKey k (k x) (y :: b) = y :: ofKey k (k x) b := by simp [ofKey, hy]
            rw [this] at hb
            injection hb with e1 e2
            subst e1
            exact ⟨[], b, rfl, by simp⟩
          · have : ofKey k (k x) (y :: b) = ofKey k (k x) b := by simp [ofKey, hy]
            rw [this] at hb
            obtain ⟨s, t, rfl, hs⟩ := ihb hb
            exact ⟨y :: s, t, rfl, by intro z hz; rcases List.mem_cons.1 hz with rfl | hz; exact hy; exact hs z hz⟩
      have := ih (s ++ t) (fun c => by
        have hc := h c
        rw [ofKey_append] at hc ⊢
        by_cases hx : k x = c
        · subst hx
          have e1 : ofKey k (k x) s = [] := ofKey_nil hs
          have e2 : ofKey k (k x) (x :: t) = x :: ofKey k (k x) t := by simp [ofKey]
          have e3 : ofKey k (k x) (x :: a) = x :: ofKey k (k x) a := by simp [ofKey]
          rw [e1, e2, e3] at hc
          rw [e1]
          simpa using hc
        · have e2 : ofKey k c (x :: t) = ofKey k c t := by simp [ofKey, hx]
          have e3 : ofKey k c (x :: a) = ofKey k c a := by simp [ofKey, hx]
          rw [e2, e3] at hc
          exact hc)
      simp at this ⊢
      omega
  exact Nat.le_antisymm (key b a (fun c => (h c).symm)) (key a b h)

/-- In order, and each key's elements in their turn: one list alone. -/
theorem unique : ∀ (a b : List Int), Keeps k a b → Asc k a → Asc k b → b = a
  | [], b, h, _, _ => List.eq_nil_of_length_eq_zero (by rw [h.length]; rfl)
  | x :: a, [], h, _, _ => by have := h.length; simp at this
  | x :: a, y :: b, h, ha, hb => by
    have hx : x ∈ y :: b := h.mem.2 (by simp)
    have hy : y ∈ x :: a := h.mem.1 (by simp)
    have h1 : k x ≤ k y := by
      rcases List.mem_cons.1 hy with e | e
      · rw [e]; exact Int.le_refl _
      · exact (List.pairwise_cons.1 ha).1 y e
    have h2 : k y ≤ k x := by
      rcases List.mem_cons.1 hx with e | e
      · rw [e]; exact Int.le_refl _
      · exact (List.pairwise_cons.1 hb).1 x e
    have hk : k y = k x := by omega
    have e := h (k x)
    have e1 : ofKey k (k x) (y :: b) = y :: ofKey k (k x) b := by simp [ofKey, hk]
    have e2 : ofKey k (k x) (x :: a) = x :: ofKey k (k x) a := by simp [ofKey]
    rw [e1, e2] at e
    injection e with e3 e4
    subst e3
    rw [unique a b (fun c => ?_) (List.pairwise_cons.1 ha).2 (List.pairwise_cons.1 hb).2]
    have hc := h c
    by_cases hh : k y = c
    · subst hh; exact e4
    · have f1 : ofKey k c (y :: b) = ofKey k c b := by simp [ofKey, hh]
      have f2 : ofKey k c (y :: a) = ofKey k c a := by simp [ofKey, hh]
      rw [f1, f2] at hc
      exact hc

/-- A stable merge of two lists. -/
def IsMerge (k : Int → Int) (u v s : List Int) : Prop := Keeps k (u ++ v) s ∧ Asc k s

theorem asc_append {a b : List Int} (ha : Asc k a) (hb : Asc k b) (h : ∀ x ∈ a, ∀ y ∈ b, k x ≤ k y) : Asc k (a ++ b) := List.pairwise_append.2 ⟨ha, hb, h⟩
theorem swap_keeps {u v : List Int} (h : ∀ x ∈ u, ∀ y ∈ v, k y < k x) : Keeps k (u ++ v) (v ++ u) := fun c => by
  rw [ofKey_append, ofKey_append]
  by_cases hu : ∃ x ∈ u, k x = c
  · obtain ⟨x, hx, rfl⟩ := hu
    have : ofKey k (k x) v = [] := ofKey_nil fun y hy e => by have := h x hx y hy; omega
    rw [this]; simp
  · have : ofKey k c u = [] := ofKey_nil fun x hx e => hu ⟨x, hx, e⟩
    rw [this]; simp

/-- Two merges side by side are one. -/
theorem IsMerge.both {u1 u2 v1 v2 s1 s2 : List Int} (hu : Asc k (u1 ++ u2)) (hv : Asc k (v1 ++ v2)) (h1 : IsMerge k u1 v1 s1) (h2 : IsMerge k u2 v2 s2) (hlt : ∀ x ∈ u2, ∀ y ∈ v1, k y < k x) (hle : ∀ x ∈ u1, ∀ y ∈ v2, k x ≤ k y) :
    IsMerge k (u1 ++ u2) (v1 ++ v2) (s1 ++ s2) := by
  refine ⟨?_, asc_append h1.2 h2.2 fun x hx y hy => ?_⟩
  · have e : Keeps k ((u1 ++ u2) ++ (v1 ++ v2)) ((u1 ++ v1) ++ (u2 ++ v2)) := by
      have := ((Keeps.refl (k := k) u1).append (swap_keeps hlt)).append (Keeps.refl v2)
      simpa using this
    exact e.trans (h1.1.append h2.1)
  · have hx' := h1.1.mem.1 hx
    have hy' := h2.1.mem.1 hy
    rcases List.mem_append.1 hx' with hx | hx <;> rcases List.mem_append.1 hy' with hy | hy
    · exact (List.pairwise_append.1 hu).2.2 x hx y hy
    · exact hle x hx y hy
    · have := hlt y hy x hx; omega
    · exact (List.pairwise_append.1 hv).2.2 x hx y hy
/-- One ahead of many. -/
theorem IsMerge.first {x : Int} {v1 v2 : List Int} (hv : Asc k (v1 ++ v2)) (h1 : ∀ y ∈ v1, k y < k x) (h2 : ∀ y ∈ v2, k x ≤ k y) : IsMerge k [x] (v1 ++ v2) (v1 ++ x :: v2) := by
  have ha := List.pairwise_append.1 hv
  refine ⟨?_, asc_append ha.1 (List.pairwise_cons.2 ⟨h2, ha.2.1⟩) fun a hm b hb => ?_⟩
  · have := (swap_keeps (k := k) (u := [x]) (v := v1) (by simpa using h1)).append (Keeps.refl v2)
    simpa using this
  · rcases List.mem_cons.1 hb with rfl | hb
    · have := h1 a hm; omega
    · exact ha.2.2 a hm b hb
/-- One behind many. -/
theorem IsMerge.last {y : Int} {u1 u2 : List Int} (hu : Asc k (u1 ++ u2)) (h1 : ∀ x ∈ u1, k x ≤ k y) (h2 : ∀ x ∈ u2, k y < k x) : IsMerge k (u1 ++ u2) [y] (u1 ++ y :: u2) := by
  have ha := List.pairwise_append.1 hu
  refine ⟨?_, asc_append ha.1 (List.pairwise_cons.2 ⟨fun z hz => by have := h2 z hz; omega, ha.2.1⟩) fun a hm b hb => ?_⟩
  · have := (Keeps.refl (k := k) u1).append (swap_keeps (k := k) (u := u2) (v := [y]) (by simpa using h2))
    simpa using this
  · rcases List.mem_cons.1 hb with rfl | hb
    · exact h1 a hm
    · exact ha.2.2 a hm b hb
theorem IsMerge.none_left {v : List Int} (hv : Asc k v) : IsMerge k [] v v := ⟨Keeps.refl _, hv⟩
theorem IsMerge.none_right {u : List Int} (hu : Asc k u) : IsMerge k u [] u := ⟨by simpa using Keeps.refl u, hu⟩

/-- A stable sort. -/
def insK (k : Int → Int) (x : Int) : List Int → List Int
  | [] => [x]
  | y :: l => if k x ≤ k y then x :: y :: l else y :: insK k x l
def sortK (k : Int → Int) : List Int → List Int
  | [] => []
  | x :: l => insK k x (sortK k l)
theorem insK_merge (x : Int) : ∀ l : List Int, Asc k l → IsMerge k [x] l (insK k x l)
  | [], _ => ⟨Keeps.refl _, by simp [insK, Asc]⟩
  | y :: l, h => by
    have hp := List.pairwise_cons.1 h
    unfold insK
    split
    · rename_i hxy
      refine ⟨Keeps.refl _, List.pairwise_cons.2 ⟨fun z hz => ?_, h⟩⟩
      rcases List.mem_cons.1 hz with rfl | hz
      · exact hxy
      · have := hp.1 z hz; omega
    · rename_i hxy
      obtain ⟨h1, h2⟩ := insK_merge x l hp.2
      refine ⟨?_, List.pairwise_cons.2 ⟨fun z hz => ?_, h2⟩⟩
      · have e1 : Keeps k ([x] ++ [y]) ([y] ++ [x]) := swap_keeps (by intro a ha b hb; simp at ha hb; subst ha hb; omega)
        have e2 := (e1.append (Keeps.refl l)).trans (c := y :: insK k x l) (by
          have := (Keeps.refl (k := k) [y]).append h1
          simpa using this)
        simpa using e2
      · rcases List.mem_append.1 (h1.mem.1 hz) with hz | hz
        · simp at hz; subst hz; omega
        · exact hp.1 z hz
theorem sortK_ok : ∀ l : List Int, Keeps k l (sortK k l) ∧ Asc k (sortK k l)
  | [] => ⟨Keeps.refl _, List.Pairwise.nil⟩
  | x :: l => by
    obtain ⟨h1, h2⟩ := sortK_ok l
    obtain ⟨g1, g2⟩ := insK_merge (k := k) x (sortK k l) h2
    refine ⟨?_, g2⟩
    have := ((Keeps.refl (k := k) [x]).append h1).trans g1
    show Keeps k (x :: l) (insK k x (sortK k l))
    simpa using this
theorem sortK_of {l s : List Int} (h1 : Keeps k l s) (h2 : Asc k s) : s = sortK k l :=
  unique _ _ (Keeps.trans (b := l) (fun c => ((sortK_ok (k := k) l).1 c).symm) h1) (sortK_ok l).2 h2
end Go.Proofs.YtkadmnabhoijdaaDoor.Stab
