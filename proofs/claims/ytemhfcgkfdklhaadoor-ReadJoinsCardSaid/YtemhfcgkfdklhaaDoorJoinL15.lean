/- ReadJoins, walked. -/
import Derived.Deep.DeepCutAuto
import Derived.Deep.CutRange
import Derived.Test.YtemhfcgkfdklhaaDoorAns15
import Derived.Test.YtemhfcgkfdklhaaDoorJoinP
set_option linter.all false
namespace Go.Proofs.YtemhfcgkfdklhaaDoor.Look
open Go Go.RowKit Go.Shelf Go.Proofs Go.Proofs.YtemhfcgkfdklhaaDoor.Rd

set_option maxRecDepth 100000 in
theorem cons7_0 {Q : Exit → Act → World → Prop} {S : World → Prop} {md : Region.Mode} {ops : Array Oper} {fuel : Nat} {listed : Array Bool} {a : Act} {w : World} {rs : List Nat} (ho : ops[0]? = some { dst := some 44, op := Op.buildSlice 22 0 #[], type := 22, pos := "law.go:40", after := #[], guard := none })
    (h : ∀ K' : Act → World → Prop, Shut (∀ a w, S w → (S w → wpAnyH Tryd.prog md ops Q S fuel (listed.setIfInBounds 0 true) a w) → K' a w) → if Region.wanted { dst := some 44, op := Op.buildSlice 22 0 #[], type := 22, pos := "law.go:40", after := #[], guard := none } (yielded ops a.tmps) = true then Oper.wp Tryd.prog { dst := some 44, op := Op.buildSlice 22 0 #[], type := 22, pos := "law.go:40", after := #[], guard := none } a w K' Q else K' (a.put ({ dst := some 44, op := Op.buildSlice 22 0 #[], type := 22, pos := "law.go:40", after := #[], guard := none } : Oper).dst undef) w)
    (hs : AllReadyH Tryd.prog md ops Q S fuel listed a w rs) : AllReadyH Tryd.prog md ops Q S fuel listed a w (0 :: rs) := AllReadyH.cons ho h hs
set_option maxRecDepth 100000 in
theorem cons7_2 {Q : Exit → Act → World → Prop} {S : World → Prop} {md : Region.Mode} {ops : Array Oper} {fuel : Nat} {listed : Array Bool} {a : Act} {w : World} {rs : List Nat} (ho : ops[2]? = some { dst := some 46, op := Op.call { callee := Callee.builtin Builtin.append, args := #[Operand.tmp 44, Operand.tmp 45], argTypes := #[22, 22] }, type := 22, pos := "law.go:40", after := #[{ on := 0, ground := Ground.data }, { on := 1, ground := Ground.data }], guard := none })
    (h : ∀ K' : Act → World → Prop, Shut (∀ a w, S w → (S w → wpAnyH Tryd.prog md ops Q S fuel (listed.setIfInBounds 2 true) a w) → K' a w) → if Region.wanted { dst := some 46, op := Op.call { callee := Callee.builtin Builtin.append, args := #[Operand.tmp 44, Operand.tmp 45], argTypes := #[22, 22] }, type := 22, pos := "law.go:40", after := #[{ on := 0, ground := Ground.data }, { on := 1, ground := Ground.data }], guard := none } (yielded ops a.tmps) = true then Oper.wp Tryd.prog { dst := some 46, op := Op.call { callee := Callee.builtin Builtin.append, args := #[Operand.tmp 44, Operand.tmp 45], argTypes := #[22, 22] }, type := 22, pos := "law.go:40", after := #[{ on := 0, ground := Ground.data }, { on := 1, ground := Ground.data }], guard := none } a w K' Q else K' (a.put ({ dst := some 46, op := Op.call { callee := Callee.builtin Builtin.append, args := #[Operand.tmp 44, Operand.tmp 45], argTypes := #[22, 22] }, type := 22, pos := "law.go:40", after := #[{ on := 0, ground := Ground.data }, { on := 1, ground := Ground.data }], guard := none } : Oper).dst undef) w)
    (hs : AllReadyH Tryd.prog md ops Q S fuel listed a w rs) : AllReadyH Tryd.prog md ops Q S fuel listed a w (2 :: rs) := AllReadyH.cons ho h hs
set_option maxRecDepth 100000 in
theorem cons7_4 {Q : Exit → Act → World → Prop} {S : World → Prop} {md : Region.Mode} {ops : Array Oper} {fuel : Nat} {listed : Array Bool} {a : Act} {w : World} {rs : List Nat} (ho : ops[4]? = some { dst := some 48, op := Op.call { callee := Callee.builtin Builtin.append, args := #[Operand.tmp 46, Operand.tmp 47], argTypes := #[22, 22] }, type := 22, pos := "law.go:40", after := #[{ on := 2, ground := Ground.data }, { on := 3, ground := Ground.data }, { on := 2, ground := Ground.chain }], guard := none })
    (h : ∀ K' : Act → World → Prop, Shut (∀ a w, S w → (S w → wpAnyH Tryd.prog md ops Q S fuel (listed.setIfInBounds 4 true) a w) → K' a w) → if Region.wanted { dst := some 48, op := Op.call { callee := Callee.builtin Builtin.append, args := #[Operand.tmp 46, Operand.tmp 47], argTypes := #[22, 22] }, type := 22, pos := "law.go:40", after := #[{ on := 2, ground := Ground.data }, { on := 3, ground := Ground.data }, { on := 2, ground := Ground.chain }], guard := none } (yielded ops a.tmps) = true then Oper.wp Tryd.prog { dst := some 48, op := Op.call { callee := Callee.builtin Builtin.append, args := #[Operand.tmp 46, Operand.tmp 47], argTypes := #[22, 22] }, type := 22, pos := "law.go:40", after := #[{ on := 2, ground := Ground.data }, { on := 3, ground := Ground.data }, { on := 2, ground := Ground.chain }], guard := none } a w K' Q else K' (a.put ({ dst := some 48, op := Op.call { callee := Callee.builtin Builtin.append, args := #[Operand.tmp 46, Operand.tmp 47], argTypes := #[22, 22] }, type := 22, pos := "law.go:40", after := #[{ on := 2, ground := Ground.data }, { on := 3, ground := Ground.data }, { on := 2, ground := Ground.chain }], guard := none } : Oper).dst undef) w)
    (hs : AllReadyH Tryd.prog md ops Q S fuel listed a w rs) : AllReadyH Tryd.prog md ops Q S fuel listed a w (4 :: rs) := AllReadyH.cons ho h hs
set_option maxRecDepth 100000 in
theorem cons7_6 {Q : Exit → Act → World → Prop} {S : World → Prop} {md : Region.Mode} {ops : Array Oper} {fuel : Nat} {listed : Array Bool} {a : Act} {w : World} {rs : List Nat} (ho : ops[6]? = some { dst := some 50, op := Op.call { callee := Callee.value (Operand.func 5), args := #[Operand.tmp 48, Operand.tmp 49], argTypes := #[22, 24] }, type := 30, pos := "law.go:40", after := #[{ on := 4, ground := Ground.data }, { on := 5, ground := Ground.data }, { on := 4, ground := Ground.chain }], guard := none })
    (h : ∀ K' : Act → World → Prop, Shut (∀ a w, S w → (S w → wpAnyH Tryd.prog md ops Q S fuel (listed.setIfInBounds 6 true) a w) → K' a w) → if Region.wanted { dst := some 50, op := Op.call { callee := Callee.value (Operand.func 5), args := #[Operand.tmp 48, Operand.tmp 49], argTypes := #[22, 24] }, type := 30, pos := "law.go:40", after := #[{ on := 4, ground := Ground.data }, { on := 5, ground := Ground.data }, { on := 4, ground := Ground.chain }], guard := none } (yielded ops a.tmps) = true then Oper.wp Tryd.prog { dst := some 50, op := Op.call { callee := Callee.value (Operand.func 5), args := #[Operand.tmp 48, Operand.tmp 49], argTypes := #[22, 24] }, type := 30, pos := "law.go:40", after := #[{ on := 4, ground := Ground.data }, { on := 5, ground := Ground.data }, { on := 4, ground := Ground.chain }], guard := none } a w K' Q else K' (a.put ({ dst := some 50, op := Op.call { callee := Callee.value (Operand.func 5), args := #[Operand.tmp 48, Operand.tmp 49], argTypes := #[22, 24] }, type := 30, pos := "law.go:40", after := #[{ on := 4, ground := Ground.data }, { on := 5, ground := Ground.data }, { on := 4, ground := Ground.chain }], guard := none } : Oper).dst undef) w)
    (hs : AllReadyH Tryd.prog md ops Q S fuel listed a w rs) : AllReadyH Tryd.prog md ops Q S fuel listed a w (6 :: rs) := AllReadyH.cons ho h hs
set_option maxRecDepth 100000 in
theorem cons7_11 {Q : Exit → Act → World → Prop} {S : World → Prop} {md : Region.Mode} {ops : Array Oper} {fuel : Nat} {listed : Array Bool} {a : Act} {w : World} {rs : List Nat} (ho : ops[11]? = some { dst := some 14, op := Op.alloc 24, type := 0, pos := "law.go:40", after := #[], guard := none })
    (h : ∀ K' : Act → World → Prop, Shut (∀ a w, S w → (S w → wpAnyH Tryd.prog md ops Q S fuel (listed.setIfInBounds 11 true) a w) → K' a w) → if Region.wanted { dst := some 14, op := Op.alloc 24, type := 0, pos := "law.go:40", after := #[], guard := none } (yielded ops a.tmps) = true then Oper.wp Tryd.prog { dst := some 14, op := Op.alloc 24, type := 0, pos := "law.go:40", after := #[], guard := none } a w K' Q else K' (a.put ({ dst := some 14, op := Op.alloc 24, type := 0, pos := "law.go:40", after := #[], guard := none } : Oper).dst undef) w)
    (hs : AllReadyH Tryd.prog md ops Q S fuel listed a w rs) : AllReadyH Tryd.prog md ops Q S fuel listed a w (11 :: rs) := AllReadyH.cons ho h hs
set_option maxRecDepth 100000 in
theorem cons7_12 {Q : Exit → Act → World → Prop} {S : World → Prop} {md : Region.Mode} {ops : Array Oper} {fuel : Nat} {listed : Array Bool} {a : Act} {w : World} {rs : List Nat} (ho : ops[12]? = some { dst := some 15, op := Op.alloc 29, type := 0, pos := "law.go:40", after := #[], guard := none })
    (h : ∀ K' : Act → World → Prop, Shut (∀ a w, S w → (S w → wpAnyH Tryd.prog md ops Q S fuel (listed.setIfInBounds 12 true) a w) → K' a w) → if Region.wanted { dst := some 15, op := Op.alloc 29, type := 0, pos := "law.go:40", after := #[], guard := none } (yielded ops a.tmps) = true then Oper.wp Tryd.prog { dst := some 15, op := Op.alloc 29, type := 0, pos := "law.go:40", after := #[], guard := none } a w K' Q else K' (a.put ({ dst := some 15, op := Op.alloc 29, type := 0, pos := "law.go:40", after := #[], guard := none } : Oper).dst undef) w)
    (hs : AllReadyH Tryd.prog md ops Q S fuel listed a w rs) : AllReadyH Tryd.prog md ops Q S fuel listed a w (12 :: rs) := AllReadyH.cons ho h hs
set_option maxRecDepth 100000 in
theorem cons7_14 {Q : Exit → Act → World → Prop} {S : World → Prop} {md : Region.Mode} {ops : Array Oper} {fuel : Nat} {listed : Array Bool} {a : Act} {w : World} {rs : List Nat} (ho : ops[14]? = some { dst := none, op := Op.store 24 (Operand.tmp 14) (Operand.tmp 52), type := 0, pos := "law.go:40", after := #[{ on := 11, ground := Ground.data }, { on := 9, ground := Ground.data }, { on := 13, ground := Ground.chain }, { on := 0, ground := Ground.phase }, { on := 1, ground := Ground.phase }, { on := 2, ground := Ground.phase }, { on := 3, ground := Ground.phase }, { on := 4, ground := Ground.phase }, { on := 5, ground := Ground.phase }, { on := 6, ground := Ground.phase }, { on := 7, ground := Ground.phase }, { on := 8, ground := Ground.phase }, { on := 9, ground := Ground.phase }, { on := 10, ground := Ground.textOnly Departure.lateStores }, { on := 11, ground := Ground.phase }, { on := 12, ground := Ground.phase }, { on := 13, ground := Ground.phase }], guard := none })
    (h : ∀ K' : Act → World → Prop, Shut (∀ a w, S w → (S w → wpAnyH Tryd.prog md ops Q S fuel (listed.setIfInBounds 14 true) a w) → K' a w) → if Region.wanted { dst := none, op := Op.store 24 (Operand.tmp 14) (Operand.tmp 52), type := 0, pos := "law.go:40", after := #[{ on := 11, ground := Ground.data }, { on := 9, ground := Ground.data }, { on := 13, ground := Ground.chain }, { on := 0, ground := Ground.phase }, { on := 1, ground := Ground.phase }, { on := 2, ground := Ground.phase }, { on := 3, ground := Ground.phase }, { on := 4, ground := Ground.phase }, { on := 5, ground := Ground.phase }, { on := 6, ground := Ground.phase }, { on := 7, ground := Ground.phase }, { on := 8, ground := Ground.phase }, { on := 9, ground := Ground.phase }, { on := 10, ground := Ground.textOnly Departure.lateStores }, { on := 11, ground := Ground.phase }, { on := 12, ground := Ground.phase }, { on := 13, ground := Ground.phase }], guard := none } (yielded ops a.tmps) = true then Oper.wp Tryd.prog { dst := none, op := Op.store 24 (Operand.tmp 14) (Operand.tmp 52), type := 0, pos := "law.go:40", after := #[{ on := 11, ground := Ground.data }, { on := 9, ground := Ground.data }, { on := 13, ground := Ground.chain }, { on := 0, ground := Ground.phase }, { on := 1, ground := Ground.phase }, { on := 2, ground := Ground.phase }, { on := 3, ground := Ground.phase }, { on := 4, ground := Ground.phase }, { on := 5, ground := Ground.phase }, { on := 6, ground := Ground.phase }, { on := 7, ground := Ground.phase }, { on := 8, ground := Ground.phase }, { on := 9, ground := Ground.phase }, { on := 10, ground := Ground.textOnly Departure.lateStores }, { on := 11, ground := Ground.phase }, { on := 12, ground := Ground.phase }, { on := 13, ground := Ground.phase }], guard := none } a w K' Q else K' (a.put ({ dst := none, op := Op.store 24 (Operand.tmp 14) (Operand.tmp 52), type := 0, pos := "law.go:40", after := #[{ on := 11, ground := Ground.data }, { on := 9, ground := Ground.data }, { on := 13, ground := Ground.chain }, { on := 0, ground := Ground.phase }, { on := 1, ground := Ground.phase }, { on := 2, ground := Ground.phase }, { on := 3, ground := Ground.phase }, { on := 4, ground := Ground.phase }, { on := 5, ground := Ground.phase }, { on := 6, ground := Ground.phase }, { on := 7, ground := Ground.phase }, { on := 8, ground := Ground.phase }, { on := 9, ground := Ground.phase }, { on := 10, ground := Ground.textOnly Departure.lateStores }, { on := 11, ground := Ground.phase }, { on := 12, ground := Ground.phase }, { on := 13, ground := Ground.phase }], guard := none } : Oper).dst undef) w)
    (hs : AllReadyH Tryd.prog md ops Q S fuel listed a w rs) : AllReadyH Tryd.prog md ops Q S fuel listed a w (14 :: rs) := AllReadyH.cons ho h hs
set_option maxRecDepth 100000 in
theorem cons7_15 {Q : Exit → Act → World → Prop} {S : World → Prop} {md : Region.Mode} {ops : Array Oper} {fuel : Nat} {listed : Array Bool} {a : Act} {w : World} {rs : List Nat} (ho : ops[15]? = some { dst := none, op := Op.store 29 (Operand.tmp 15) (Operand.tmp 53), type := 0, pos := "law.go:40", after := #[{ on := 12, ground := Ground.data }, { on := 10, ground := Ground.data }, { on := 14, ground := Ground.chain }, { on := 0, ground := Ground.phase }, { on := 1, ground := Ground.phase }, { on := 2, ground := Ground.phase }, { on := 3, ground := Ground.phase }, { on := 4, ground := Ground.phase }, { on := 5, ground := Ground.phase }, { on := 6, ground := Ground.phase }, { on := 7, ground := Ground.phase }, { on := 8, ground := Ground.phase }, { on := 9, ground := Ground.phase }, { on := 10, ground := Ground.phase }, { on := 11, ground := Ground.phase }, { on := 12, ground := Ground.phase }, { on := 13, ground := Ground.phase }, { on := 14, ground := Ground.phase }], guard := none })
    (h : ∀ K' : Act → World → Prop, Shut (∀ a w, S w → (S w → wpAnyH Tryd.prog md ops Q S fuel (listed.setIfInBounds 15 true) a w) → K' a w) → if Region.wanted { dst := none, op := Op.store 29 (Operand.tmp 15) (Operand.tmp 53), type := 0, pos := "law.go:40", after := #[{ on := 12, ground := Ground.data }, { on := 10, ground := Ground.data }, { on := 14, ground := Ground.chain }, { on := 0, ground := Ground.phase }, { on := 1, ground := Ground.phase }, { on := 2, ground := Ground.phase }, { on := 3, ground := Ground.phase }, { on := 4, ground := Ground.phase }, { on := 5, ground := Ground.phase }, { on := 6, ground := Ground.phase }, { on := 7, ground := Ground.phase }, { on := 8, ground := Ground.phase }, { on := 9, ground := Ground.phase }, { on := 10, ground := Ground.phase }, { on := 11, ground := Ground.phase }, { on := 12, ground := Ground.phase }, { on := 13, ground := Ground.phase }, { on := 14, ground := Ground.phase }], guard := none } (yielded ops a.tmps) = true then Oper.wp Tryd.prog { dst := none, op := Op.store 29 (Operand.tmp 15) (Operand.tmp 53), type := 0, pos := "law.go:40", after := #[{ on := 12, ground := Ground.data }, { on := 10, ground := Ground.data }, { on := 14, ground := Ground.chain }, { on := 0, ground := Ground.phase }, { on := 1, ground := Ground.phase }, { on := 2, ground := Ground.phase }, { on := 3, ground := Ground.phase }, { on := 4, ground := Ground.phase }, { on := 5, ground := Ground.phase }, { on := 6, ground := Ground.phase }, { on := 7, ground := Ground.phase }, { on := 8, ground := Ground.phase }, { on := 9, ground := Ground.phase }, { on := 10, ground := Ground.phase }, { on := 11, ground := Ground.phase }, { on := 12, ground := Ground.phase }, { on := 13, ground := Ground.phase }, { on := 14, ground := Ground.phase }], guard := none } a w K' Q else K' (a.put ({ dst := none, op := Op.store 29 (Operand.tmp 15) (Operand.tmp 53), type := 0, pos := "law.go:40", after := #[{ on := 12, ground := Ground.data }, { on := 10, ground := Ground.data }, { on := 14, ground := Ground.chain }, { on := 0, ground := Ground.phase }, { on := 1, ground := Ground.phase }, { on := 2, ground := Ground.phase }, { on := 3, ground := Ground.phase }, { on := 4, ground := Ground.phase }, { on := 5, ground := Ground.phase }, { on := 6, ground := Ground.phase }, { on := 7, ground := Ground.phase }, { on := 8, ground := Ground.phase }, { on := 9, ground := Ground.phase }, { on := 10, ground := Ground.phase }, { on := 11, ground := Ground.phase }, { on := 12, ground := Ground.phase }, { on := 13, ground := Ground.phase }, { on := 14, ground := Ground.phase }], guard := none } : Oper).dst undef) w)
    (hs : AllReadyH Tryd.prog md ops Q S fuel listed a w rs) : AllReadyH Tryd.prog md ops Q S fuel listed a w (15 :: rs) := AllReadyH.cons ho h hs

/-- Behind the second reading. -/
theorem joins_two {w F1 w2 : World} {x y : Value} {l1 l2 : List Int} {g0 g1 : Int} {B : Nat} (h1 : Below w.heap.size w F1 ∧ OwnR F1 B x l1 ∧ At2 F1 w.heap.size g0 g1 24) (h2 : OwnR w2 F1.heap.size y l2) (h3 : Below F1.heap.size F1 w2) (p q u v : Int) :
    ∃ B', Below w.heap.size w ((w2.alloc (.cells #[.int .i64 p, .int .i64 q] 24)).alloc (.cells #[.int .i64 u, .int .i64 v] 29)) ∧ OwnR ((w2.alloc (.cells #[.int .i64 p, .int .i64 q] 24)).alloc (.cells #[.int .i64 u, .int .i64 v] 29)) B' x l1 ∧ OwnR ((w2.alloc (.cells #[.int .i64 p, .int .i64 q] 24)).alloc (.cells #[.int .i64 u, .int .i64 v] 29)) B' y l2 ∧
      At2 ((w2.alloc (.cells #[.int .i64 p, .int .i64 q] 24)).alloc (.cells #[.int .i64 u, .int .i64 v] 29)) w.heap.size g0 g1 24 ∧ At2 ((w2.alloc (.cells #[.int .i64 p, .int .i64 q] 24)).alloc (.cells #[.int .i64 u, .int .i64 v] 29)) w2.heap.size p q 24 ∧ At2 ((w2.alloc (.cells #[.int .i64 p, .int .i64 q] 24)).alloc (.cells #[.int .i64 u, .int .i64 v] 29)) (w2.heap.size + 1) u v 29 := by
  obtain ⟨k1, k2, k3⟩ := h1
  have hb2 := k1.trans (h3.mono k1.size)
  have ht := (two w2 p q u v).2.2
  have hn : At2 ((w2.alloc (.cells #[.int .i64 p, .int .i64 q] 24)).alloc (.cells #[.int .i64 u, .int .i64 v] 29)) (w2.heap.size + 1) u v 29 := by
    have := At2.new (w2.alloc (.cells #[.int .i64 p, .int .i64 q] 24)) u v 29
    rwa [World.size_alloc] at this
  exact ⟨0, hb2.trans (ht.mono hb2.size), (((k2.below h3).base (Nat.zero_le _)).alloc _).alloc _, ((h2.base (Nat.zero_le _)).alloc _).alloc _, ((k3.below h3 k3.lt).alloc _).alloc _, (At2.new w2 p q _).alloc _, hn⟩
/-- Behind the first reading. -/
theorem joins_one {w W0 w1 : World} {x : Value} {l : List Int} {g0 g1 : Int} (hbox : At2 W0 w.heap.size g0 g1 24) (hb0 : Below w.heap.size w W0) (hW : W0 = w.alloc (.cells #[.int .i64 g0, .int .i64 g1] 24)) {B : Nat} (hA : OwnR w1 B x l ∧ Below (w.alloc (.cells #[.int .i64 g0, .int .i64 g1] 24)).heap.size (w.alloc (.cells #[.int .i64 g0, .int .i64 g1] 24)) w1) (p q u v : Int) :
    Aside (Below w.heap.size w ((w1.alloc (.cells #[.int .i64 p, .int .i64 q] 24)).alloc (.cells #[.int .i64 u, .int .i64 v] 29)) ∧ OwnR ((w1.alloc (.cells #[.int .i64 p, .int .i64 q] 24)).alloc (.cells #[.int .i64 u, .int .i64 v] 29)) B x l ∧ At2 ((w1.alloc (.cells #[.int .i64 p, .int .i64 q] 24)).alloc (.cells #[.int .i64 u, .int .i64 v] 29)) w.heap.size g0 g1 24) := by
  rw [← hW] at hA
  have hb1 := hb0.trans (hA.2.mono hb0.size)
  have ht := (two w1 p q u v).2.2
  exact ⟨hb1.trans (ht.mono hb1.size), (hA.1.alloc _).alloc _, ((hbox.below hA.2 hbox.lt).alloc _).alloc _⟩

set_option maxHeartbeats 8000000 in
set_option maxRecDepth 100000 in
theorem joinsBig (w : World) (hT : Tabs w) (a1 a2 : Option Addr) (c1 c2 N1 N2 : Nat) (g0 g1 : Int) (hbig : ¬ (N1 ≤ 300 ∧ N2 ≤ 300)) :
    Calls Tryd.prog 3 #[.slice a1 N1 c1, .slice a2 N2 c2, .agg #[.int .i64 g0, .int .i64 g1]] w fun e w' => e = .returned (.bool true) ∧ Below w.heap.size w w' := by
  have hb0 : Below w.heap.size w (w.alloc (.cells #[.int .i64 g0, .int .i64 g1] 24)) := (Below.refl _ w).alloc (Nat.le_refl _) _
  have HA : Hid (Calls Tryd.prog 4 #[] (w.alloc (.cells #[.int .i64 g0, .int .i64 g1] 24)) fun e w' => e = .returned (.bool true) ∧ Aside (Below w.heap.size w w')) := (answers _ (hT.below hb0)).mono fun e w' h => ⟨h.1, hb0.trans (h.2.mono hb0.size)⟩
  clear hb0 hT
  by_cases h1 : (300 : Int) < (N1 : Int)
  · have hd : decide ((300 : Int) < (N1 : Int)) = true := decide_eq_true h1
    go_enter Tryd.func3, Tryd.ntmps3
    go_wp2_with (go_at_call 4; refine HA.out.mono ?_; rintro e w1 ⟨rfl, hb⟩; clear HA)
    go_ret
    exact ⟨rfl, hb.out⟩
  · have hd : decide ((300 : Int) < (N1 : Int)) = false := decide_eq_false h1
    have h2 : (300 : Int) < (N2 : Int) := by omega
    have hd2 : decide ((300 : Int) < (N2 : Int)) = true := decide_eq_true h2
    clear hbig
    go_enter Tryd.func3, Tryd.ntmps3
    go_wp2_with (go_at_call 4; refine HA.out.mono ?_; rintro e w1 ⟨rfl, hb⟩; clear HA)
    go_ret
    exact ⟨rfl, hb.out⟩

set_option maxHeartbeats 8000000 in
set_option maxRecDepth 100000 in
theorem joinsSmall (w : World) (hT : Tabs w) (a1 a2 : Option Addr) (c1 c2 : Nat) (la lb : List Int) (g0 g1 : Int) (hra : RowB w a1 la) (hrb : RowB w a2 lb) (hc1 : la.length ≤ c1 ∧ c1 ≤ 9223372036854775807) (hc2 : lb.length ≤ c2 ∧ c2 ≤ 9223372036854775807) (hn1 : a1 = none → c1 = 0) (hn2 : a2 = none → c2 = 0) (hya : ∀ x ∈ la, 0 ≤ x ∧ x ≤ 255) (hyb : ∀ x ∈ lb, 0 ≤ x ∧ x ≤ 255) (hs1 : la.length ≤ 300) (hs2 : lb.length ≤ 300) :
    Calls Tryd.prog 3 #[.slice a1 la.length c1, .slice a2 lb.length c2, .agg #[.int .i64 g0, .int .i64 g1]] w fun e w' => e = .returned (.bool true) ∧ Below w.heap.size w w' := by
  obtain ⟨D1, hD1⟩ : ∃ D, D = decodeV markV T0 la g0 g1 := ⟨_, rfl⟩
  obtain ⟨D2, hD2⟩ : ∃ D, D = decodeV markV T0 lb (gA D1) (gB D1) := ⟨_, rfl⟩
  obtain ⟨D3, hD3⟩ : ∃ D, D = decodeV markV T0 (la ++ lb) g0 g1 := ⟨_, rfl⟩
  have hparts := joins_parts hD1 hD2 hD3
  have hlen1 := @decode_len markV T0 la g0 g1
  have hlen2 := @decode_len markV T0 lb (gA D1) (gB D1)
  have hat2 := @decode_at markV T0 lb (gA D1) (gB D1)
  have hlen3 := @decode_len markV T0 (la ++ lb) g0 g1
  rw [← hD1] at hlen1
  rw [← hD2] at hlen2 hat2
  rw [← hD3, List.length_append] at hlen3
  obtain ⟨W0, hW0⟩ : ∃ W0, W0 = w.alloc (.cells #[.int .i64 g0, .int .i64 g1] 24) := ⟨_, rfl⟩
  have hb0 : Below w.heap.size w W0 := by rw [hW0]; exact (Below.refl _ w).alloc (Nat.le_refl _) _
  have hbox : At2 W0 w.heap.size g0 g1 24 := by rw [hW0]; exact At2.new w g0 g1 _
  have HA : Hid (∀ X, Below w.heap.size w X → Calls Tryd.prog 4 #[] X fun e w' => e = .returned (.bool true) ∧ Below X.heap.size X w') := fun X hX => answers X (hT.below hX)
  have H1 : Hid (Calls Tryd.prog 5 #[.slice a1 la.length c1, .agg #[.int .i64 g0, .int .i64 g1]] W0 fun e w' => ∃ x, e = .returned (.tuple #[x, .agg #[.int .i64 (gA D1), .int .i64 (gB D1)], .agg #[.int .i64 (eA D1), .int .i64 (eB D1)]]) ∧ Aside (OwnR w' W0.heap.size x (outV D1) ∧ Below W0.heap.size W0 w')) := by
    refine (cDecode W0 (hT.below hb0) a1 c1 la g0 g1 (hra.below hb0) hc1.1 hc1.2 (by omega) hya).mono ?_
    rw [← hD1]
    intro e w' h
    obtain ⟨v, h1, h2, h3⟩ := h.parts
    exact ⟨v, h1, h2, h3⟩
  have H2 : Hid (∀ X, Below w.heap.size w X → Calls Tryd.prog 5 #[.slice a2 lb.length c2, .agg #[.int .i64 (gA D1), .int .i64 (gB D1)]] X fun e w' => ∃ y, e = .returned (.tuple #[y, .agg #[.int .i64 (gA D2), .int .i64 (gB D2)], .agg #[.int .i64 (eA D2), .int .i64 (eB D2)]]) ∧ Aside (OwnR w' X.heap.size y (outV D2) ∧ Below X.heap.size X w')) := fun X hX => by
    refine (cDecode X (hT.below hX) a2 c2 lb (gA D1) (gB D1) (hrb.below hX) hc2.1 hc2.2 (by omega) hyb).mono ?_
    rw [← hD2]
    intro e w' h
    obtain ⟨v, h1, h2, h3⟩ := h.parts
    exact ⟨v, h1, h2, h3⟩
  have H3 : Hid (∀ X v B, Below w.heap.size w X → OwnY X B v (la ++ lb) → Calls Tryd.prog 5 #[v, .agg #[.int .i64 g0, .int .i64 g1]] X fun e w' => ∃ z, e = .returned (.tuple #[z, .agg #[.int .i64 (gA D3), .int .i64 (gB D3)], .agg #[.int .i64 (eA D3), .int .i64 (eB D3)]]) ∧ OwnR w' X.heap.size z (outV D3) ∧ Below X.heap.size X w') := fun X v B hX hy => by
    have hyl := hy.2
    obtain ⟨a, c, rfl, k1, k2, _⟩ := OwnY.rowB hy
    have hcm : c ≤ 9223372036854775807 := by
      rcases hyl with ⟨h, _⟩ | ⟨g, cap, cur, h, _, _, _, h5, _⟩
      · injection h with _ _ h; omega
      · injection h with _ _ h; unfold maxLen at h5; omega
    refine (cDecode X (hT.below hX) a c (la ++ lb) g0 g1 k1 k2 hcm (by rw [List.length_append]; omega) (fun x hx => (List.mem_append.1 hx).elim (hya x) (hyb x))).mono ?_
    rw [← hD3]
    intro e w' h
    obtain ⟨v, h1, h2, h3⟩ := h.parts
    exact ⟨v, h1, h2, h3⟩
  have HSA : Aside (∀ X, Below w.heap.size w X → SrcY X (.slice a1 la.length c1) la) := fun X hX => (hra.below hX).src hn1
  have HSB : Aside (∀ X, Below w.heap.size w X → SrcY X (.slice a2 lb.length c2) lb) := fun X hX => (hrb.below hX).src hn2
  have HL : Aside (la.length ≤ 300 ∧ lb.length ≤ 300) := ⟨hs1, hs2⟩
  have HBX : Aside (At2 W0 w.heap.size g0 g1 24 ∧ Below w.heap.size w W0) := ⟨hbox, hb0⟩
  obtain ⟨out1, ho1⟩ : ∃ z, z = outV D1 := ⟨_, rfl⟩
  obtain ⟨out2, ho2⟩ : ∃ z, z = outV D2 := ⟨_, rfl⟩
  obtain ⟨out3, ho3⟩ : ∃ z, z = outV D3 := ⟨_, rfl⟩
  obtain ⟨N1, hN1⟩ : ∃ z, z = la.length := ⟨_, rfl⟩
  obtain ⟨N2, hN2⟩ : ∃ z, z = lb.length := ⟨_, rfl⟩
  rw [← hN1, ← hN2]
  rw [← ho1] at H1 hparts hlen1
  rw [← ho2] at H2 hparts hlen2
  rw [← ho3] at H3 hparts hlen3
  rw [← hN1] at H1 HSA hs1 hparts hlen1 hlen3
  rw [← hN2] at H2 HSB hs2 hat2 hlen2 hlen3
  clear ho1 ho2 ho3 hD1 hD2 hD3 hra hrb hc1 hc2 hn1 hn2 hya hyb hT hN1 hN2 hb0 hbox
  generalize gA D1 = G0 at H1 H2
  generalize gB D1 = G1 at H1 H2
  generalize eA D1 = E0 at H1 hparts
  generalize eB D1 = E1 at H1
  generalize gA D2 = I0 at H2 hparts
  generalize gB D2 = I1 at H2 hparts
  generalize eA D2 = M0 at H2 hparts
  generalize eB D2 = M1 at H2 hparts hat2
  generalize gA D3 = J0 at H3 hparts
  generalize gB D3 = J1 at H3 hparts
  generalize eA D3 = K0 at H3 hparts
  generalize eB D3 = K1 at H3 hparts
  clear D1 D2 D3
  have hd1 : decide ((300 : Int) < (N1 : Int)) = false := decide_eq_false (by omega)
  have hd2 : decide ((300 : Int) < (N2 : Int)) = false := decide_eq_false (by omega)
  have hle1 : ¬ (300 : Int) < (N1 : Int) := by omega
  have hle2 : ¬ (300 : Int) < (N2 : Int) := by omega
  by_cases hE : E0 = 0
  case neg =>
    have hEb : (E0 == 0) = false := by simpa using hE
    clear H2 H3 HSA HSB hparts hlen1 hlen2 hlen3 hat2
    rw [hW0] at H1
    go_enter Tryd.func3, Tryd.ntmps3
    go_wp2_with (first
      | (go_at_call 4; refine (HA.out _ hA1.out).mono ?_; rintro e w5 ⟨rfl, hb5⟩; clear HA)
      | (go_at_call 5; refine H1.out.mono ?_; rintro e w1 ⟨x, rfl, hA⟩; have hA1 : Aside (Below w.heap.size w ((w1.alloc (.cells #[.int .i64 G0, .int .i64 G1] 24)).alloc (.cells #[.int .i64 E0, .int .i64 E1] 29))) := (HBX.out.2.trans ((show Below W0.heap.size W0 w1 by rw [hW0]; exact hA.out.2).mono HBX.out.2.size)).trans (((two w1 G0 G1 E0 E1).2.2).mono (by have h1 := HBX.out.2.size; have h2 := (show Below W0.heap.size W0 w1 by rw [hW0]; exact hA.out.2).size; omega)); clear H1 hA))
    go_ret
    exact ⟨rfl, hA1.out.trans (hb5.mono hA1.out.size)⟩
  case pos =>
    subst hE
    have HP : Aside (K0 = M0 ∧ (M0 ≠ 0 → K1 = N1 + M1) ∧ (M0 = 0 → J0 = I0 ∧ J1 = I1 ∧ out3 = out1 ++ out2)) := hparts rfl
    have HN : Aside (out1.length ≤ 300 ∧ out2.length ≤ 300 ∧ out3.length ≤ 600 ∧ 0 ≤ M1 ∧ M1 ≤ 300 ∧ N1 ≤ 300) := ⟨by omega, by omega, by omega, hat2.1, by omega, hs1⟩
    clear hparts hlen1 hlen2 hlen3 hat2
    rw [hW0] at H1
    have HW0 : Aside (W0 = w.alloc (.cells #[.int .i64 g0, .int .i64 g1] 24)) := hW0
    clear hW0
    go_enter Tryd.func3, Tryd.ntmps3
    go_upto_region 7 with (first
      | (go_at_call 5; refine (H2.out _ hA1.out.1).mono ?_; rintro e w2 ⟨y, rfl, hA2⟩; clear H2)
      | (go_at_call 5; refine H1.out.mono ?_; rintro e w1 ⟨x, rfl, hA⟩; have hA1 := joins_one HBX.out.1 HBX.out.2 HW0.out hA.out G0 G1 0 E1; clear H1 hA))
    obtain ⟨F, hF⟩ : ∃ Z, Z = ((w2.alloc (.cells #[.int .i64 I0, .int .i64 I1] 24)).alloc (.cells #[.int .i64 M0, .int .i64 M1] 29)) := ⟨_, rfl⟩
    have hFF : Aside (∃ B, Below w.heap.size w F ∧ OwnR F B x out1 ∧ OwnR F B y out2 ∧ At2 F w.heap.size g0 g1 24 ∧ At2 F w2.heap.size I0 I1 24 ∧ At2 F (w2.heap.size + 1) M0 M1 29) := by rw [hF]; exact joins_two hA1.out hA2.out.1 hA2.out.2 I0 I1 M0 M1
    rw [← hF]
    clear hF hA1 hA2 HBX HW0
    obtain ⟨b12, hb12⟩ : ∃ z, z = w2.heap.size + 1 := ⟨_, rfl⟩
    obtain ⟨b11, hb11⟩ : ∃ z, z = w2.heap.size := ⟨_, rfl⟩
    rw [← hb12, ← hb11] at hFF
    rw [← hb12, ← hb11]
    clear hb12 hb11
    have HFF : Aside (Below w.heap.size w F) := by obtain ⟨B, h, _⟩ := hFF.out; exact h
    have HA0 : Aside (∀ X, Below F.heap.size F X → SrcY X (.slice a1 N1 c1) la) := fun X hX => HSA.out X (HFF.out.trans (hX.mono HFF.out.size))
    have HB0 : Aside (∀ X, Below F.heap.size F X → SrcY X (.slice a2 N2 c2) lb) := fun X hX => HSB.out X (HFF.out.trans (hX.mono HFF.out.size))
    have HD : Hid (∀ X v, Below F.heap.size F X → OwnY X F.heap.size v (la ++ lb) → Calls Tryd.prog 5 #[v, .agg #[.int .i64 g0, .int .i64 g1]] X fun e w' => ∃ z, e = .returned (.tuple #[z, .agg #[.int .i64 J0, .int .i64 J1], .agg #[.int .i64 K0, .int .i64 K1]]) ∧ OwnR w' X.heap.size z out3 ∧ Below X.heap.size X w') := fun X v hX hy => H3.out X v _ (HFF.out.trans (hX.mono HFF.out.size)) hy
    clear HSA HSB H3
    go_cut [13, 14, 15] from 16 (fun v13 v14 v15 wx => ∃ a3 a5, v14 = .pointer (some ⟨a3, 0, none⟩) ∧ v15 = .pointer (some ⟨a5, 0, none⟩) ∧ At2 wx a3 J0 J1 24 ∧ At2 wx a5 K0 K1 29 ∧ OwnR wx F.heap.size v13 out3 ∧ Below F.heap.size F wx ∧ F.heap.size ≤ a3 ∧ F.heap.size ≤ a5)
    case first =>
      have kbox : Cells2 F w.heap.size g0 g1 := by obtain ⟨B, _, _, _, h, _⟩ := hFF.out; exact h.cells
      have k0 := kbox.c0
      have k1 := kbox.c1
      have kl := kbox.lt
      clear kbox hFF HFF HP HN HA
      refine wp_region_held_drew (S := fun w' => Below F.heap.size F w') (by kernel_rfl) (Below.refl _ F).drew (fun hHeld => ?_)
      refine wpAnyH_take (i := 1) (v := ?v1_1) rfl (by kernel_rfl) (by kernel_rfl) (by kernel_rfl) (fun _ _ _ h => h) (Or.inl ⟨by kernel_rfl, ?h1_1⟩) hHeld ?r1_1
      case h1_1 => (rintro w' hb; go_simp; try (with_reducible rfl))
      try simp only [Act.put, List.getElem_toArray, List.getElem_cons_zero, List.getElem_cons_succ, List.setIfInBounds_toArray, List.set_cons_zero, List.set_cons_succ]
      refine wpAnyH_take (i := 3) (v := ?v3_2) rfl (by kernel_rfl) (by kernel_rfl) (by kernel_rfl) (fun _ _ _ h => h) (Or.inl ⟨by kernel_rfl, ?h3_2⟩) hHeld ?r3_2
      case h3_2 => (rintro w' hb; go_simp; try (with_reducible rfl))
      try simp only [Act.put, List.getElem_toArray, List.getElem_cons_zero, List.getElem_cons_succ, List.setIfInBounds_toArray, List.set_cons_zero, List.set_cons_succ]
      refine wpAnyH_take (i := 5) (v := ?v5_3) rfl (by kernel_rfl) (by kernel_rfl) (by kernel_rfl) (fun _ _ _ h => h) (Or.inl ⟨by kernel_rfl, ?h5_3⟩) hHeld ?r5_3
      case h5_3 => (rintro w' hb; have q0 := (hb.cell (p := ⟨w.heap.size, 0, none⟩) kl).trans k0; have q1 := (hb.cell (p := ⟨w.heap.size, 1, none⟩) kl).trans k1; go_simp; try (with_reducible rfl))
      try simp only [Act.put, List.getElem_toArray, List.getElem_cons_zero, List.getElem_cons_succ, List.setIfInBounds_toArray, List.set_cons_zero, List.set_cons_succ]
      obtain ⟨X0, hX0⟩ : ∃ Z, Z = F.drew := ⟨_, rfl⟩
      rw [← hX0] at hHeld ⊢
      clear hX0 k0 k1
      refine wpAnyH_ready (rs := [0, 11, 12]) (by kernel_rfl) (by simp) ?_
      refine cons7_0 rfl (fun K hK => ?_) (cons7_11 rfl (fun K hK => ?_) (cons7_12 rfl (fun K hK => ?_) (AllReadyH.nil)))
      · go_simp
        refine hK.out _ _ (hHeld.alloc hHeld.size _) (fun hY1 => ?_)
        clear hK K
        try simp only [Act.put, List.getElem_toArray, List.getElem_cons_zero, List.getElem_cons_succ, List.setIfInBounds_toArray, List.set_cons_zero, List.set_cons_succ]
        have hy := OwnY.made X0 F.heap.size hHeld.size
        generalize X0.alloc (.cells #[] 5) = X1 at hY1 hy ⊢
        generalize X0.heap.size = yb at hy ⊢
        refine wpAnyH_ready (rs := [2, 11, 12]) (by kernel_rfl) (by simp) ?_
        refine cons7_2 rfl (fun K hK => ?_) (cons7_11 rfl (fun K hK => ?_) (cons7_12 rfl (fun K hK => ?_) (AllReadyH.nil)))
        · refine step_append_bytes rfl _ _ rfl F.heap.size _ [] rfl hy _ la rfl (HA0.out X1 hY1) (by have := HL.out; simp; omega) hY1.size ?_
          intro v2 X2 hy2 hb hg
          clear hy hg
          refine hK.out _ _ (hY1.trans hb) (fun hY2 => ?_)
          clear hK K hb
          try simp only [Act.put, List.getElem_toArray, List.getElem_cons_zero, List.getElem_cons_succ, List.setIfInBounds_toArray, List.set_cons_zero, List.set_cons_succ]
          have hy := hy2
          clear hy2
          refine wpAnyH_ready (rs := [4, 11, 12]) (by kernel_rfl) (by simp) ?_
          refine cons7_4 rfl (fun K hK => ?_) (cons7_11 rfl (fun K hK => ?_) (cons7_12 rfl (fun K hK => ?_) (AllReadyH.nil)))
          · refine step_append_bytes rfl _ _ rfl F.heap.size _ la rfl hy _ lb rfl (HB0.out X2 hY2) (by have := HL.out; simp; omega) hY2.size ?_
            intro v3 X3 hy2 hb hg
            clear hy hg
            refine hK.out _ _ (hY2.trans hb) (fun hY3 => ?_)
            clear hK K hb
            try simp only [Act.put, List.getElem_toArray, List.getElem_cons_zero, List.getElem_cons_succ, List.setIfInBounds_toArray, List.set_cons_zero, List.set_cons_succ]
            have hy := hy2
            clear hy2
            refine wpAnyH_ready (rs := [6, 11, 12]) (by kernel_rfl) (by simp) ?_
            refine cons7_6 rfl (fun K hK => ?_) (cons7_11 rfl (fun K hK => ?_) (cons7_12 rfl (fun K hK => ?_) (AllReadyH.nil)))
            · go_simp
              refine (HD.out _ _ hY3 hy).mono ?_
              rintro e X4 ⟨z, rfl, hz0, hb⟩
              clear hy
              have hz : OwnR X4 F.heap.size z out3 := hz0.base hY3.size
              clear hz0
              refine hK.out _ _ (hY3.trans (hb.mono hY3.size)) (fun hY4 => ?_)
              clear hK K hb
              try simp only [Act.put, List.getElem_toArray, List.getElem_cons_zero, List.getElem_cons_succ, List.setIfInBounds_toArray, List.set_cons_zero, List.set_cons_succ]
              refine wpAnyH_take (i := 7) (v := ?v7_4) rfl (by kernel_rfl) (by kernel_rfl) (by kernel_rfl) (fun _ _ _ h => h) (Or.inl ⟨by kernel_rfl, ?h7_4⟩) hY4 ?r7_4
              case h7_4 => (rintro w' hb; go_simp; try (with_reducible rfl))
              try simp only [Act.put, List.getElem_toArray, List.getElem_cons_zero, List.getElem_cons_succ, List.setIfInBounds_toArray, List.set_cons_zero, List.set_cons_succ]
              refine wpAnyH_take (i := 8) (v := ?v8_5) rfl (by kernel_rfl) (by kernel_rfl) (by kernel_rfl) (fun _ _ _ h => h) (Or.inl ⟨by kernel_rfl, ?h8_5⟩) hY4 ?r8_5
              case h8_5 => (rintro w' hb; go_simp; try (with_reducible rfl))
              try simp only [Act.put, List.getElem_toArray, List.getElem_cons_zero, List.getElem_cons_succ, List.setIfInBounds_toArray, List.set_cons_zero, List.set_cons_succ]
              refine wpAnyH_take (i := 9) (v := ?v9_6) rfl (by kernel_rfl) (by kernel_rfl) (by kernel_rfl) (fun _ _ _ h => h) (Or.inl ⟨by kernel_rfl, ?h9_6⟩) hY4 ?r9_6
              case h9_6 => (rintro w' hb; go_simp; try (with_reducible rfl))
              try simp only [Act.put, List.getElem_toArray, List.getElem_cons_zero, List.getElem_cons_succ, List.setIfInBounds_toArray, List.set_cons_zero, List.set_cons_succ]
              refine wpAnyH_take (i := 10) (v := ?v10_7) rfl (by kernel_rfl) (by kernel_rfl) (by kernel_rfl) (fun _ _ _ h => h) (Or.inl ⟨by kernel_rfl, ?h10_7⟩) hY4 ?r10_7
              case h10_7 => (rintro w' hb; go_simp; try (with_reducible rfl))
              try simp only [Act.put, List.getElem_toArray, List.getElem_cons_zero, List.getElem_cons_succ, List.setIfInBounds_toArray, List.set_cons_zero, List.set_cons_succ]
              refine wpAnyH_ready (rs := [11, 12]) (by kernel_rfl) (by simp) ?_
              refine cons7_11 rfl (fun K hK => ?_) (cons7_12 rfl (fun K hK => ?_) (AllReadyH.nil))
              · go_simp
                refine hK.out _ _ (hY4.alloc hY4.size _) (fun hY5 => ?_)
                clear hK K
                try simp only [Act.put, List.getElem_toArray, List.getElem_cons_zero, List.getElem_cons_succ, List.setIfInBounds_toArray, List.set_cons_zero, List.set_cons_succ]
                replace hz := OwnR.alloc hz (.cells #[.int .i64 0, .int .i64 0] 24)
                have c3 := At2.new X4 0 0 24
                have l3 := hY4.size
                generalize X4.alloc (.cells #[.int .i64 0, .int .i64 0] 24) = X5 at c3 hY5 hz ⊢
                generalize X4.heap.size = a3 at c3 l3 ⊢
                refine wpAnyH_ready (rs := [12]) (by kernel_rfl) (by simp) ?_
                refine cons7_12 rfl (fun K hK => ?_) (AllReadyH.nil)
                · go_simp
                  refine hK.out _ _ (hY5.alloc hY5.size _) (fun hY6 => ?_)
                  clear hK K
                  try simp only [Act.put, List.getElem_toArray, List.getElem_cons_zero, List.getElem_cons_succ, List.setIfInBounds_toArray, List.set_cons_zero, List.set_cons_succ]
                  replace hz := OwnR.alloc hz (.cells #[.int .i64 0, .int .i64 0] 29)
                  replace c3 := c3.alloc (.cells #[.int .i64 0, .int .i64 0] 29)
                  have c5 := At2.new X5 0 0 29
                  have l5 := hY5.size
                  generalize X5.alloc (.cells #[.int .i64 0, .int .i64 0] 29) = X6 at c5 hY6 hz c3 ⊢
                  generalize X5.heap.size = a5 at c5 l5 ⊢
                  refine wpAnyH_take (i := 13) (v := ?v13_8) rfl (by kernel_rfl) (by kernel_rfl) (by kernel_rfl) (fun _ _ _ h => h) (Or.inl ⟨by kernel_rfl, ?h13_8⟩) hY6 ?r13_8
                  case h13_8 => (rintro w' hb; go_simp; try (with_reducible rfl))
                  try simp only [Act.put, List.getElem_toArray, List.getElem_cons_zero, List.getElem_cons_succ, List.setIfInBounds_toArray, List.set_cons_zero, List.set_cons_succ]
                  refine wpAnyH_ready (rs := [14]) (by kernel_rfl) (by simp) ?_
                  refine cons7_14 rfl (fun K hK => ?_) (AllReadyH.nil)
                  · obtain ⟨k0, k1, kf0, kf1, kl⟩ := c3.cells
                    go_simp
                    refine hK.out _ _ ((hY6.setCell (p := ⟨a3, 0, none⟩) l3 _).setCell (p := ⟨a3, 1, none⟩) l3 _) (fun hY7 => ?_)
                    clear hK K k0 k1 kf0 kf1 kl
                    try simp only [Act.put, List.getElem_toArray, List.getElem_cons_zero, List.getElem_cons_succ, List.setIfInBounds_toArray, List.set_cons_zero, List.set_cons_succ]
                    replace hz := hz.far c3 (by decide) (.int .i64 J0) (.int .i64 J1)
                    replace c5 := c5.off c3 (by decide) (.int .i64 J0) (.int .i64 J1)
                    replace c3 := c3.put J0 J1
                    generalize ((X6.setCell ⟨a3, 0, none⟩ (.int .i64 J0)).setCell ⟨a3, 1, none⟩ (.int .i64 J1)) = X7 at c3 c5 hz hY7 ⊢
                    refine wpAnyH_ready (rs := [15]) (by kernel_rfl) (by simp) ?_
                    refine cons7_15 rfl (fun K hK => ?_) (AllReadyH.nil)
                    · obtain ⟨k0, k1, kf0, kf1, kl⟩ := c5.cells
                      go_simp
                      refine hK.out _ _ ((hY7.setCell (p := ⟨a5, 0, none⟩) l5 _).setCell (p := ⟨a5, 1, none⟩) l5 _) (fun hY8 => ?_)
                      clear hK K k0 k1 kf0 kf1 kl
                      try simp only [Act.put, List.getElem_toArray, List.getElem_cons_zero, List.getElem_cons_succ, List.setIfInBounds_toArray, List.set_cons_zero, List.set_cons_succ]
                      replace hz := hz.far c5 (by decide) (.int .i64 K0) (.int .i64 K1)
                      replace c3 := c3.off c5 (by decide) (.int .i64 K0) (.int .i64 K1)
                      replace c5 := c5.put K0 K1
                      generalize ((X7.setCell ⟨a5, 0, none⟩ (.int .i64 K0)).setCell ⟨a5, 1, none⟩ (.int .i64 K1)) = X8 at c3 c5 hz hY8 ⊢
                      refine wpAnyH_done (by kernel_rfl) ?_ _
                      try simp only [Act.put, List.getElem_toArray, List.getElem_cons_zero, List.getElem_cons_succ, List.setIfInBounds_toArray, List.set_cons_zero, List.set_cons_succ]
                      go_wp2
                      go_meet
                      exact ⟨a3, a5, rfl, rfl, c3, c5, hz, hY8, l3, l5⟩
              · go_simp
                refine hK.out _ _ (hY4.alloc hY4.size _) (fun hY9 => ?_)
                clear hK K
                try simp only [Act.put, List.getElem_toArray, List.getElem_cons_zero, List.getElem_cons_succ, List.setIfInBounds_toArray, List.set_cons_zero, List.set_cons_succ]
                replace hz := OwnR.alloc hz (.cells #[.int .i64 0, .int .i64 0] 29)
                have c5 := At2.new X4 0 0 29
                have l5 := hY4.size
                generalize X4.alloc (.cells #[.int .i64 0, .int .i64 0] 29) = X9 at c5 hY9 hz ⊢
                generalize X4.heap.size = a5 at c5 l5 ⊢
                refine wpAnyH_ready (rs := [11]) (by kernel_rfl) (by simp) ?_
                refine cons7_11 rfl (fun K hK => ?_) (AllReadyH.nil)
                · go_simp
                  refine hK.out _ _ (hY9.alloc hY9.size _) (fun hY10 => ?_)
                  clear hK K
                  try simp only [Act.put, List.getElem_toArray, List.getElem_cons_zero, List.getElem_cons_succ, List.setIfInBounds_toArray, List.set_cons_zero, List.set_cons_succ]
                  replace hz := OwnR.alloc hz (.cells #[.int .i64 0, .int .i64 0] 24)
                  replace c5 := c5.alloc (.cells #[.int .i64 0, .int .i64 0] 24)
                  have c3 := At2.new X9 0 0 24
                  have l3 := hY9.size
                  generalize X9.alloc (.cells #[.int .i64 0, .int .i64 0] 24) = X10 at c3 hY10 hz c5 ⊢
                  generalize X9.heap.size = a3 at c3 l3 ⊢
                  refine wpAnyH_take (i := 13) (v := ?v13_9) rfl (by kernel_rfl) (by kernel_rfl) (by kernel_rfl) (fun _ _ _ h => h) (Or.inl ⟨by kernel_rfl, ?h13_9⟩) hY10 ?r13_9
                  case h13_9 => (rintro w' hb; go_simp; try (with_reducible rfl))
                  try simp only [Act.put, List.getElem_toArray, List.getElem_cons_zero, List.getElem_cons_succ, List.setIfInBounds_toArray, List.set_cons_zero, List.set_cons_succ]
                  refine wpAnyH_ready (rs := [14]) (by kernel_rfl) (by simp) ?_
                  refine cons7_14 rfl (fun K hK => ?_) (AllReadyH.nil)
                  · obtain ⟨k0, k1, kf0, kf1, kl⟩ := c3.cells
                    go_simp
                    refine hK.out _ _ ((hY10.setCell (p := ⟨a3, 0, none⟩) l3 _).setCell (p := ⟨a3, 1, none⟩) l3 _) (fun hY11 => ?_)
                    clear hK K k0 k1 kf0 kf1 kl
                    try simp only [Act.put, List.getElem_toArray, List.getElem_cons_zero, List.getElem_cons_succ, List.setIfInBounds_toArray, List.set_cons_zero, List.set_cons_succ]
                    replace hz := hz.far c3 (by decide) (.int .i64 J0) (.int .i64 J1)
                    replace c5 := c5.off c3 (by decide) (.int .i64 J0) (.int .i64 J1)
                    replace c3 := c3.put J0 J1
                    generalize ((X10.setCell ⟨a3, 0, none⟩ (.int .i64 J0)).setCell ⟨a3, 1, none⟩ (.int .i64 J1)) = X11 at c3 c5 hz hY11 ⊢
                    refine wpAnyH_ready (rs := [15]) (by kernel_rfl) (by simp) ?_
                    refine cons7_15 rfl (fun K hK => ?_) (AllReadyH.nil)
                    · obtain ⟨k0, k1, kf0, kf1, kl⟩ := c5.cells
                      go_simp
                      refine hK.out _ _ ((hY11.setCell (p := ⟨a5, 0, none⟩) l5 _).setCell (p := ⟨a5, 1, none⟩) l5 _) (fun hY12 => ?_)
                      clear hK K k0 k1 kf0 kf1 kl
                      try simp only [Act.put, List.getElem_toArray, List.getElem_cons_zero, List.getElem_cons_succ, List.setIfInBounds_toArray, List.set_cons_zero, List.set_cons_succ]
                      replace hz := hz.far c5 (by decide) (.int .i64 K0) (.int .i64 K1)
                      replace c3 := c3.off c5 (by decide) (.int .i64 K0) (.int .i64 K1)
                      replace c5 := c5.put K0 K1
                      generalize ((X11.setCell ⟨a5, 0, none⟩ (.int .i64 K0)).setCell ⟨a5, 1, none⟩ (.int .i64 K1)) = X12 at c3 c5 hz hY12 ⊢
                      refine wpAnyH_done (by kernel_rfl) ?_ _
                      try simp only [Act.put, List.getElem_toArray, List.getElem_cons_zero, List.getElem_cons_succ, List.setIfInBounds_toArray, List.set_cons_zero, List.set_cons_succ]
                      go_wp2
                      go_meet
                      exact ⟨a3, a5, rfl, rfl, c3, c5, hz, hY12, l3, l5⟩
            · go_simp
              refine hK.out _ _ (hY3.alloc hY3.size _) (fun hY13 => ?_)
              clear hK K
              try simp only [Act.put, List.getElem_toArray, List.getElem_cons_zero, List.getElem_cons_succ, List.setIfInBounds_toArray, List.set_cons_zero, List.set_cons_succ]
              replace hy := OwnY.alloc hy (.cells #[.int .i64 0, .int .i64 0] 24)
              have c3 := At2.new X3 0 0 24
              have l3 := hY3.size
              generalize X3.alloc (.cells #[.int .i64 0, .int .i64 0] 24) = X13 at c3 hY13 hy ⊢
              generalize X3.heap.size = a3 at c3 l3 ⊢
              refine wpAnyH_ready (rs := [6, 12]) (by kernel_rfl) (by simp) ?_
              refine cons7_6 rfl (fun K hK => ?_) (cons7_12 rfl (fun K hK => ?_) (AllReadyH.nil))
              · go_simp
                refine (HD.out _ _ hY13 hy).mono ?_
                rintro e X14 ⟨z, rfl, hz0, hb⟩
                clear hy
                replace c3 := c3.below hb c3.lt
                have hz : OwnR X14 F.heap.size z out3 := hz0.base hY13.size
                clear hz0
                refine hK.out _ _ (hY13.trans (hb.mono hY13.size)) (fun hY14 => ?_)
                clear hK K hb
                try simp only [Act.put, List.getElem_toArray, List.getElem_cons_zero, List.getElem_cons_succ, List.setIfInBounds_toArray, List.set_cons_zero, List.set_cons_succ]
                refine wpAnyH_take (i := 7) (v := ?v7_10) rfl (by kernel_rfl) (by kernel_rfl) (by kernel_rfl) (fun _ _ _ h => h) (Or.inl ⟨by kernel_rfl, ?h7_10⟩) hY14 ?r7_10
                case h7_10 => (rintro w' hb; go_simp; try (with_reducible rfl))
                try simp only [Act.put, List.getElem_toArray, List.getElem_cons_zero, List.getElem_cons_succ, List.setIfInBounds_toArray, List.set_cons_zero, List.set_cons_succ]
                refine wpAnyH_take (i := 8) (v := ?v8_11) rfl (by kernel_rfl) (by kernel_rfl) (by kernel_rfl) (fun _ _ _ h => h) (Or.inl ⟨by kernel_rfl, ?h8_11⟩) hY14 ?r8_11
                case h8_11 => (rintro w' hb; go_simp; try (with_reducible rfl))
                try simp only [Act.put, List.getElem_toArray, List.getElem_cons_zero, List.getElem_cons_succ, List.setIfInBounds_toArray, List.set_cons_zero, List.set_cons_succ]
                refine wpAnyH_take (i := 9) (v := ?v9_12) rfl (by kernel_rfl) (by kernel_rfl) (by kernel_rfl) (fun _ _ _ h => h) (Or.inl ⟨by kernel_rfl, ?h9_12⟩) hY14 ?r9_12
                case h9_12 => (rintro w' hb; go_simp; try (with_reducible rfl))
                try simp only [Act.put, List.getElem_toArray, List.getElem_cons_zero, List.getElem_cons_succ, List.setIfInBounds_toArray, List.set_cons_zero, List.set_cons_succ]
                refine wpAnyH_take (i := 10) (v := ?v10_13) rfl (by kernel_rfl) (by kernel_rfl) (by kernel_rfl) (fun _ _ _ h => h) (Or.inl ⟨by kernel_rfl, ?h10_13⟩) hY14 ?r10_13
                case h10_13 => (rintro w' hb; go_simp; try (with_reducible rfl))
                try simp only [Act.put, List.getElem_toArray, List.getElem_cons_zero, List.getElem_cons_succ, List.setIfInBounds_toArray, List.set_cons_zero, List.set_cons_succ]
                refine wpAnyH_ready (rs := [12]) (by kernel_rfl) (by simp) ?_
                refine cons7_12 rfl (fun K hK => ?_) (AllReadyH.nil)
                · go_simp
                  refine hK.out _ _ (hY14.alloc hY14.size _) (fun hY15 => ?_)
                  clear hK K
                  try simp only [Act.put, List.getElem_toArray, List.getElem_cons_zero, List.getElem_cons_succ, List.setIfInBounds_toArray, List.set_cons_zero, List.set_cons_succ]
                  replace hz := OwnR.alloc hz (.cells #[.int .i64 0, .int .i64 0] 29)
                  replace c3 := c3.alloc (.cells #[.int .i64 0, .int .i64 0] 29)
                  have c5 := At2.new X14 0 0 29
                  have l5 := hY14.size
                  generalize X14.alloc (.cells #[.int .i64 0, .int .i64 0] 29) = X15 at c5 hY15 hz c3 ⊢
                  generalize X14.heap.size = a5 at c5 l5 ⊢
                  refine wpAnyH_take (i := 13) (v := ?v13_14) rfl (by kernel_rfl) (by kernel_rfl) (by kernel_rfl) (fun _ _ _ h => h) (Or.inl ⟨by kernel_rfl, ?h13_14⟩) hY15 ?r13_14
                  case h13_14 => (rintro w' hb; go_simp; try (with_reducible rfl))
                  try simp only [Act.put, List.getElem_toArray, List.getElem_cons_zero, List.getElem_cons_succ, List.setIfInBounds_toArray, List.set_cons_zero, List.set_cons_succ]
                  refine wpAnyH_ready (rs := [14]) (by kernel_rfl) (by simp) ?_
                  refine cons7_14 rfl (fun K hK => ?_) (AllReadyH.nil)
                  · obtain ⟨k0, k1, kf0, kf1, kl⟩ := c3.cells
                    go_simp
                    refine hK.out _ _ ((hY15.setCell (p := ⟨a3, 0, none⟩) l3 _).setCell (p := ⟨a3, 1, none⟩) l3 _) (fun hY16 => ?_)
                    clear hK K k0 k1 kf0 kf1 kl
                    try simp only [Act.put, List.getElem_toArray, List.getElem_cons_zero, List.getElem_cons_succ, List.setIfInBounds_toArray, List.set_cons_zero, List.set_cons_succ]
                    replace hz := hz.far c3 (by decide) (.int .i64 J0) (.int .i64 J1)
                    replace c5 := c5.off c3 (by decide) (.int .i64 J0) (.int .i64 J1)
                    replace c3 := c3.put J0 J1
                    generalize ((X15.setCell ⟨a3, 0, none⟩ (.int .i64 J0)).setCell ⟨a3, 1, none⟩ (.int .i64 J1)) = X16 at c3 c5 hz hY16 ⊢
                    refine wpAnyH_ready (rs := [15]) (by kernel_rfl) (by simp) ?_
                    refine cons7_15 rfl (fun K hK => ?_) (AllReadyH.nil)
                    · obtain ⟨k0, k1, kf0, kf1, kl⟩ := c5.cells
                      go_simp
                      refine hK.out _ _ ((hY16.setCell (p := ⟨a5, 0, none⟩) l5 _).setCell (p := ⟨a5, 1, none⟩) l5 _) (fun hY17 => ?_)
                      clear hK K k0 k1 kf0 kf1 kl
                      try simp only [Act.put, List.getElem_toArray, List.getElem_cons_zero, List.getElem_cons_succ, List.setIfInBounds_toArray, List.set_cons_zero, List.set_cons_succ]
                      replace hz := hz.far c5 (by decide) (.int .i64 K0) (.int .i64 K1)
                      replace c3 := c3.off c5 (by decide) (.int .i64 K0) (.int .i64 K1)
                      replace c5 := c5.put K0 K1
                      generalize ((X16.setCell ⟨a5, 0, none⟩ (.int .i64 K0)).setCell ⟨a5, 1, none⟩ (.int .i64 K1)) = X17 at c3 c5 hz hY17 ⊢
                      refine wpAnyH_done (by kernel_rfl) ?_ _
                      try simp only [Act.put, List.getElem_toArray, List.getElem_cons_zero, List.getElem_cons_succ, List.setIfInBounds_toArray, List.set_cons_zero, List.set_cons_succ]
                      go_wp2
                      go_meet
                      exact ⟨a3, a5, rfl, rfl, c3, c5, hz, hY17, l3, l5⟩
              · go_simp
                refine hK.out _ _ (hY13.alloc hY13.size _) (fun hY18 => ?_)
                clear hK K
                try simp only [Act.put, List.getElem_toArray, List.getElem_cons_zero, List.getElem_cons_succ, List.setIfInBounds_toArray, List.set_cons_zero, List.set_cons_succ]
                replace hy := OwnY.alloc hy (.cells #[.int .i64 0, .int .i64 0] 29)
                replace c3 := c3.alloc (.cells #[.int .i64 0, .int .i64 0] 29)
                have c5 := At2.new X13 0 0 29
                have l5 := hY13.size
                generalize X13.alloc (.cells #[.int .i64 0, .int .i64 0] 29) = X18 at c5 hY18 hy c3 ⊢
                generalize X13.heap.size = a5 at c5 l5 ⊢
                refine wpAnyH_ready (rs := [6]) (by kernel_rfl) (by simp) ?_
                refine cons7_6 rfl (fun K hK => ?_) (AllReadyH.nil)
                · go_simp
                  refine (HD.out _ _ hY18 hy).mono ?_
                  rintro e X19 ⟨z, rfl, hz0, hb⟩
                  clear hy
                  replace c3 := c3.below hb c3.lt
                  replace c5 := c5.below hb c5.lt
                  have hz : OwnR X19 F.heap.size z out3 := hz0.base hY18.size
                  clear hz0
                  refine hK.out _ _ (hY18.trans (hb.mono hY18.size)) (fun hY19 => ?_)
                  clear hK K hb
                  try simp only [Act.put, List.getElem_toArray, List.getElem_cons_zero, List.getElem_cons_succ, List.setIfInBounds_toArray, List.set_cons_zero, List.set_cons_succ]
                  refine wpAnyH_take (i := 7) (v := ?v7_15) rfl (by kernel_rfl) (by kernel_rfl) (by kernel_rfl) (fun _ _ _ h => h) (Or.inl ⟨by kernel_rfl, ?h7_15⟩) hY19 ?r7_15
                  case h7_15 => (rintro w' hb; go_simp; try (with_reducible rfl))
                  try simp only [Act.put, List.getElem_toArray, List.getElem_cons_zero, List.getElem_cons_succ, List.setIfInBounds_toArray, List.set_cons_zero, List.set_cons_succ]
                  refine wpAnyH_take (i := 8) (v := ?v8_16) rfl (by kernel_rfl) (by kernel_rfl) (by kernel_rfl) (fun _ _ _ h => h) (Or.inl ⟨by kernel_rfl, ?h8_16⟩) hY19 ?r8_16
                  case h8_16 => (rintro w' hb; go_simp; try (with_reducible rfl))
                  try simp only [Act.put, List.getElem_toArray, List.getElem_cons_zero, List.getElem_cons_succ, List.setIfInBounds_toArray, List.set_cons_zero, List.set_cons_succ]
                  refine wpAnyH_take (i := 9) (v := ?v9_17) rfl (by kernel_rfl) (by kernel_rfl) (by kernel_rfl) (fun _ _ _ h => h) (Or.inl ⟨by kernel_rfl, ?h9_17⟩) hY19 ?r9_17
                  case h9_17 => (rintro w' hb; go_simp; try (with_reducible rfl))
                  try simp only [Act.put, List.getElem_toArray, List.getElem_cons_zero, List.getElem_cons_succ, List.setIfInBounds_toArray, List.set_cons_zero, List.set_cons_succ]
                  refine wpAnyH_take (i := 10) (v := ?v10_18) rfl (by kernel_rfl) (by kernel_rfl) (by kernel_rfl) (fun _ _ _ h => h) (Or.inl ⟨by kernel_rfl, ?h10_18⟩) hY19 ?r10_18
                  case h10_18 => (rintro w' hb; go_simp; try (with_reducible rfl))
                  try simp only [Act.put, List.getElem_toArray, List.getElem_cons_zero, List.getElem_cons_succ, List.setIfInBounds_toArray, List.set_cons_zero, List.set_cons_succ]
                  refine wpAnyH_take (i := 13) (v := ?v13_19) rfl (by kernel_rfl) (by kernel_rfl) (by kernel_rfl) (fun _ _ _ h => h) (Or.inl ⟨by kernel_rfl, ?h13_19⟩) hY19 ?r13_19
                  case h13_19 => (rintro w' hb; go_simp; try (with_reducible rfl))
                  try simp only [Act.put, List.getElem_toArray, List.getElem_cons_zero, List.getElem_cons_succ, List.setIfInBounds_toArray, List.set_cons_zero, List.set_cons_succ]
                  refine wpAnyH_ready (rs := [14]) (by kernel_rfl) (by simp) ?_
                  refine cons7_14 rfl (fun K hK => ?_) (AllReadyH.nil)
                  · obtain ⟨k0, k1, kf0, kf1, kl⟩ := c3.cells
                    go_simp
                    refine hK.out _ _ ((hY19.setCell (p := ⟨a3, 0, none⟩) l3 _).setCell (p := ⟨a3, 1, none⟩) l3 _) (fun hY20 => ?_)
                    clear hK K k0 k1 kf0 kf1 kl
                    try simp only [Act.put, List.getElem_toArray, List.getElem_cons_zero, List.getElem_cons_succ, List.setIfInBounds_toArray, List.set_cons_zero, List.set_cons_succ]
                    replace hz := hz.far c3 (by decide) (.int .i64 J0) (.int .i64 J1)
                    replace c5 := c5.off c3 (by decide) (.int .i64 J0) (.int .i64 J1)
                    replace c3 := c3.put J0 J1
                    generalize ((X19.setCell ⟨a3, 0, none⟩ (.int .i64 J0)).setCell ⟨a3, 1, none⟩ (.int .i64 J1)) = X20 at c3 c5 hz hY20 ⊢
                    refine wpAnyH_ready (rs := [15]) (by kernel_rfl) (by simp) ?_
                    refine cons7_15 rfl (fun K hK => ?_) (AllReadyH.nil)
                    · obtain ⟨k0, k1, kf0, kf1, kl⟩ := c5.cells
                      go_simp
                      refine hK.out _ _ ((hY20.setCell (p := ⟨a5, 0, none⟩) l5 _).setCell (p := ⟨a5, 1, none⟩) l5 _) (fun hY21 => ?_)
                      clear hK K k0 k1 kf0 kf1 kl
                      try simp only [Act.put, List.getElem_toArray, List.getElem_cons_zero, List.getElem_cons_succ, List.setIfInBounds_toArray, List.set_cons_zero, List.set_cons_succ]
                      replace hz := hz.far c5 (by decide) (.int .i64 K0) (.int .i64 K1)
                      replace c3 := c3.off c5 (by decide) (.int .i64 K0) (.int .i64 K1)
                      replace c5 := c5.put K0 K1
                      generalize ((X20.setCell ⟨a5, 0, none⟩ (.int .i64 K0)).setCell ⟨a5, 1, none⟩ (.int .i64 K1)) = X21 at c3 c5 hz hY21 ⊢
                      refine wpAnyH_done (by kernel_rfl) ?_ _
                      try simp only [Act.put, List.getElem_toArray, List.getElem_cons_zero, List.getElem_cons_succ, List.setIfInBounds_toArray, List.set_cons_zero, List.set_cons_succ]
                      go_wp2
                      go_meet
                      exact ⟨a3, a5, rfl, rfl, c3, c5, hz, hY21, l3, l5⟩
            · go_simp
              refine hK.out _ _ (hY3.alloc hY3.size _) (fun hY22 => ?_)
              clear hK K
              try simp only [Act.put, List.getElem_toArray, List.getElem_cons_zero, List.getElem_cons_succ, List.setIfInBounds_toArray, List.set_cons_zero, List.set_cons_succ]
              replace hy := OwnY.alloc hy (.cells #[.int .i64 0, .int .i64 0] 29)
              have c5 := At2.new X3 0 0 29
              have l5 := hY3.size
              generalize X3.alloc (.cells #[.int .i64 0, .int .i64 0] 29) = X22 at c5 hY22 hy ⊢
              generalize X3.heap.size = a5 at c5 l5 ⊢
              refine wpAnyH_ready (rs := [6, 11]) (by kernel_rfl) (by simp) ?_
              refine cons7_6 rfl (fun K hK => ?_) (cons7_11 rfl (fun K hK => ?_) (AllReadyH.nil))
              · go_simp
                refine (HD.out _ _ hY22 hy).mono ?_
                rintro e X23 ⟨z, rfl, hz0, hb⟩
                clear hy
                replace c5 := c5.below hb c5.lt
                have hz : OwnR X23 F.heap.size z out3 := hz0.base hY22.size
                clear hz0
                refine hK.out _ _ (hY22.trans (hb.mono hY22.size)) (fun hY23 => ?_)
                clear hK K hb
                try simp only [Act.put, List.getElem_toArray, List.getElem_cons_zero, List.getElem_cons_succ, List.setIfInBounds_toArray, List.set_cons_zero, List.set_cons_succ]
                refine wpAnyH_take (i := 7) (v := ?v7_20) rfl (by kernel_rfl) (by kernel_rfl) (by kernel_rfl) (fun _ _ _ h => h) (Or.inl ⟨by kernel_rfl, ?h7_20⟩) hY23 ?r7_20
                case h7_20 => (rintro w' hb; go_simp; try (with_reducible rfl))
                try simp only [Act.put, List.getElem_toArray, List.getElem_cons_zero, List.getElem_cons_succ, List.setIfInBounds_toArray, List.set_cons_zero, List.set_cons_succ]
                refine wpAnyH_take (i := 8) (v := ?v8_21) rfl (by kernel_rfl) (by kernel_rfl) (by kernel_rfl) (fun _ _ _ h => h) (Or.inl ⟨by kernel_rfl, ?h8_21⟩) hY23 ?r8_21
                case h8_21 => (rintro w' hb; go_simp; try (with_reducible rfl))
                try simp only [Act.put, List.getElem_toArray, List.getElem_cons_zero, List.getElem_cons_succ, List.setIfInBounds_toArray, List.set_cons_zero, List.set_cons_succ]
                refine wpAnyH_take (i := 9) (v := ?v9_22) rfl (by kernel_rfl) (by kernel_rfl) (by kernel_rfl) (fun _ _ _ h => h) (Or.inl ⟨by kernel_rfl, ?h9_22⟩) hY23 ?r9_22
                case h9_22 => (rintro w' hb; go_simp; try (with_reducible rfl))
                try simp only [Act.put, List.getElem_toArray, List.getElem_cons_zero, List.getElem_cons_succ, List.setIfInBounds_toArray, List.set_cons_zero, List.set_cons_succ]
                refine wpAnyH_take (i := 10) (v := ?v10_23) rfl (by kernel_rfl) (by kernel_rfl) (by kernel_rfl) (fun _ _ _ h => h) (Or.inl ⟨by kernel_rfl, ?h10_23⟩) hY23 ?r10_23
                case h10_23 => (rintro w' hb; go_simp; try (with_reducible rfl))
                try simp only [Act.put, List.getElem_toArray, List.getElem_cons_zero, List.getElem_cons_succ, List.setIfInBounds_toArray, List.set_cons_zero, List.set_cons_succ]
                refine wpAnyH_ready (rs := [11]) (by kernel_rfl) (by simp) ?_
                refine cons7_11 rfl (fun K hK => ?_) (AllReadyH.nil)
                · go_simp
                  refine hK.out _ _ (hY23.alloc hY23.size _) (fun hY24 => ?_)
                  clear hK K
                  try simp only [Act.put, List.getElem_toArray, List.getElem_cons_zero, List.getElem_cons_succ, List.setIfInBounds_toArray, List.set_cons_zero, List.set_cons_succ]
                  replace hz := OwnR.alloc hz (.cells #[.int .i64 0, .int .i64 0] 24)
                  replace c5 := c5.alloc (.cells #[.int .i64 0, .int .i64 0] 24)
                  have c3 := At2.new X23 0 0 24
                  have l3 := hY23.size
                  generalize X23.alloc (.cells #[.int .i64 0, .int .i64 0] 24) = X24 at c3 hY24 hz c5 ⊢
                  generalize X23.heap.size = a3 at c3 l3 ⊢
                  refine wpAnyH_take (i := 13) (v := ?v13_24) rfl (by kernel_rfl) (by kernel_rfl) (by kernel_rfl) (fun _ _ _ h => h) (Or.inl ⟨by kernel_rfl, ?h13_24⟩) hY24 ?r13_24
                  case h13_24 => (rintro w' hb; go_simp; try (with_reducible rfl))
                  try simp only [Act.put, List.getElem_toArray, List.getElem_cons_zero, List.getElem_cons_succ, List.setIfInBounds_toArray, List.set_cons_zero, List.set_cons_succ]
                  refine wpAnyH_ready (rs := [14]) (by kernel_rfl) (by simp) ?_
                  refine cons7_14 rfl (fun K hK => ?_) (AllReadyH.nil)
                  · obtain ⟨k0, k1, kf0, kf1, kl⟩ := c3.cells
                    go_simp
                    refine hK.out _ _ ((hY24.setCell (p := ⟨a3, 0, none⟩) l3 _).setCell (p := ⟨a3, 1, none⟩) l3 _) (fun hY25 => ?_)
                    clear hK K k0 k1 kf0 kf1 kl
                    try simp only [Act.put, List.getElem_toArray, List.getElem_cons_zero, List.getElem_cons_succ, List.setIfInBounds_toArray, List.set_cons_zero, List.set_cons_succ]
                    replace hz := hz.far c3 (by decide) (.int .i64 J0) (.int .i64 J1)
                    replace c5 := c5.off c3 (by decide) (.int .i64 J0) (.int .i64 J1)
                    replace c3 := c3.put J0 J1
                    generalize ((X24.setCell ⟨a3, 0, none⟩ (.int .i64 J0)).setCell ⟨a3, 1, none⟩ (.int .i64 J1)) = X25 at c3 c5 hz hY25 ⊢
                    refine wpAnyH_ready (rs := [15]) (by kernel_rfl) (by simp) ?_
                    refine cons7_15 rfl (fun K hK => ?_) (AllReadyH.nil)
                    · obtain ⟨k0, k1, kf0, kf1, kl⟩ := c5.cells
                      go_simp
                      refine hK.out _ _ ((hY25.setCell (p := ⟨a5, 0, none⟩) l5 _).setCell (p := ⟨a5, 1, none⟩) l5 _) (fun hY26 => ?_)
                      clear hK K k0 k1 kf0 kf1 kl
                      try simp only [Act.put, List.getElem_toArray, List.getElem_cons_zero, List.getElem_cons_succ, List.setIfInBounds_toArray, List.set_cons_zero, List.set_cons_succ]
                      replace hz := hz.far c5 (by decide) (.int .i64 K0) (.int .i64 K1)
                      replace c3 := c3.off c5 (by decide) (.int .i64 K0) (.int .i64 K1)
                      replace c5 := c5.put K0 K1
                      generalize ((X25.setCell ⟨a5, 0, none⟩ (.int .i64 K0)).setCell ⟨a5, 1, none⟩ (.int .i64 K1)) = X26 at c3 c5 hz hY26 ⊢
                      refine wpAnyH_done (by kernel_rfl) ?_ _
                      try simp only [Act.put, List.getElem_toArray, List.getElem_cons_zero, List.getElem_cons_succ, List.setIfInBounds_toArray, List.set_cons_zero, List.set_cons_succ]
                      go_wp2
                      go_meet
                      exact ⟨a3, a5, rfl, rfl, c3, c5, hz, hY26, l3, l5⟩
              · go_simp
                refine hK.out _ _ (hY22.alloc hY22.size _) (fun hY27 => ?_)
                clear hK K
                try simp only [Act.put, List.getElem_toArray, List.getElem_cons_zero, List.getElem_cons_succ, List.setIfInBounds_toArray, List.set_cons_zero, List.set_cons_succ]
                replace hy := OwnY.alloc hy (.cells #[.int .i64 0, .int .i64 0] 24)
                replace c5 := c5.alloc (.cells #[.int .i64 0, .int .i64 0] 24)
                have c3 := At2.new X22 0 0 24
                have l3 := hY22.size
                generalize X22.alloc (.cells #[.int .i64 0, .int .i64 0] 24) = X27 at c3 hY27 hy c5 ⊢
                generalize X22.heap.size = a3 at c3 l3 ⊢
                refine wpAnyH_ready (rs := [6]) (by kernel_rfl) (by simp) ?_
                refine cons7_6 rfl (fun K hK => ?_) (AllReadyH.nil)
                · go_simp
                  refine (HD.out _ _ hY27 hy).mono ?_
                  rintro e X28 ⟨z, rfl, hz0, hb⟩
                  clear hy
                  replace c3 := c3.below hb c3.lt
                  replace c5 := c5.below hb c5.lt
                  have hz : OwnR X28 F.heap.size z out3 := hz0.base hY27.size
                  clear hz0
                  refine hK.out _ _ (hY27.trans (hb.mono hY27.size)) (fun hY28 => ?_)
                  clear hK K hb
                  try simp only [Act.put, List.getElem_toArray, List.getElem_cons_zero, List.getElem_cons_succ, List.setIfInBounds_toArray, List.set_cons_zero, List.set_cons_succ]
                  refine wpAnyH_take (i := 7) (v := ?v7_25) rfl (by kernel_rfl) (by kernel_rfl) (by kernel_rfl) (fun _ _ _ h => h) (Or.inl ⟨by kernel_rfl, ?h7_25⟩) hY28 ?r7_25
                  case h7_25 => (rintro w' hb; go_simp; try (with_reducible rfl))
                  try simp only [Act.put, List.getElem_toArray, List.getElem_cons_zero, List.getElem_cons_succ, List.setIfInBounds_toArray, List.set_cons_zero, List.set_cons_succ]
                  refine wpAnyH_take (i := 8) (v := ?v8_26) rfl (by kernel_rfl) (by kernel_rfl) (by kernel_rfl) (fun _ _ _ h => h) (Or.inl ⟨by kernel_rfl, ?h8_26⟩) hY28 ?r8_26
                  case h8_26 => (rintro w' hb; go_simp; try (with_reducible rfl))
                  try simp only [Act.put, List.getElem_toArray, List.getElem_cons_zero, List.getElem_cons_succ, List.setIfInBounds_toArray, List.set_cons_zero, List.set_cons_succ]
                  refine wpAnyH_take (i := 9) (v := ?v9_27) rfl (by kernel_rfl) (by kernel_rfl) (by kernel_rfl) (fun _ _ _ h => h) (Or.inl ⟨by kernel_rfl, ?h9_27⟩) hY28 ?r9_27
                  case h9_27 => (rintro w' hb; go_simp; try (with_reducible rfl))
                  try simp only [Act.put, List.getElem_toArray, List.getElem_cons_zero, List.getElem_cons_succ, List.setIfInBounds_toArray, List.set_cons_zero, List.set_cons_succ]
                  refine wpAnyH_take (i := 10) (v := ?v10_28) rfl (by kernel_rfl) (by kernel_rfl) (by kernel_rfl) (fun _ _ _ h => h) (Or.inl ⟨by kernel_rfl, ?h10_28⟩) hY28 ?r10_28
                  case h10_28 => (rintro w' hb; go_simp; try (with_reducible rfl))
                  try simp only [Act.put, List.getElem_toArray, List.getElem_cons_zero, List.getElem_cons_succ, List.setIfInBounds_toArray, List.set_cons_zero, List.set_cons_succ]
                  refine wpAnyH_take (i := 13) (v := ?v13_29) rfl (by kernel_rfl) (by kernel_rfl) (by kernel_rfl) (fun _ _ _ h => h) (Or.inl ⟨by kernel_rfl, ?h13_29⟩) hY28 ?r13_29
                  case h13_29 => (rintro w' hb; go_simp; try (with_reducible rfl))
                  try simp only [Act.put, List.getElem_toArray, List.getElem_cons_zero, List.getElem_cons_succ, List.setIfInBounds_toArray, List.set_cons_zero, List.set_cons_succ]
                  refine wpAnyH_ready (rs := [14]) (by kernel_rfl) (by simp) ?_
                  refine cons7_14 rfl (fun K hK => ?_) (AllReadyH.nil)
                  · obtain ⟨k0, k1, kf0, kf1, kl⟩ := c3.cells
                    go_simp
                    refine hK.out _ _ ((hY28.setCell (p := ⟨a3, 0, none⟩) l3 _).setCell (p := ⟨a3, 1, none⟩) l3 _) (fun hY29 => ?_)
                    clear hK K k0 k1 kf0 kf1 kl
                    try simp only [Act.put, List.getElem_toArray, List.getElem_cons_zero, List.getElem_cons_succ, List.setIfInBounds_toArray, List.set_cons_zero, List.set_cons_succ]
                    replace hz := hz.far c3 (by decide) (.int .i64 J0) (.int .i64 J1)
                    replace c5 := c5.off c3 (by decide) (.int .i64 J0) (.int .i64 J1)
                    replace c3 := c3.put J0 J1
                    generalize ((X28.setCell ⟨a3, 0, none⟩ (.int .i64 J0)).setCell ⟨a3, 1, none⟩ (.int .i64 J1)) = X29 at c3 c5 hz hY29 ⊢
                    refine wpAnyH_ready (rs := [15]) (by kernel_rfl) (by simp) ?_
                    refine cons7_15 rfl (fun K hK => ?_) (AllReadyH.nil)
                    · obtain ⟨k0, k1, kf0, kf1, kl⟩ := c5.cells
                      go_simp
                      refine hK.out _ _ ((hY29.setCell (p := ⟨a5, 0, none⟩) l5 _).setCell (p := ⟨a5, 1, none⟩) l5 _) (fun hY30 => ?_)
                      clear hK K k0 k1 kf0 kf1 kl
                      try simp only [Act.put, List.getElem_toArray, List.getElem_cons_zero, List.getElem_cons_succ, List.setIfInBounds_toArray, List.set_cons_zero, List.set_cons_succ]
                      replace hz := hz.far c5 (by decide) (.int .i64 K0) (.int .i64 K1)
                      replace c3 := c3.off c5 (by decide) (.int .i64 K0) (.int .i64 K1)
                      replace c5 := c5.put K0 K1
                      generalize ((X29.setCell ⟨a5, 0, none⟩ (.int .i64 K0)).setCell ⟨a5, 1, none⟩ (.int .i64 K1)) = X30 at c3 c5 hz hY30 ⊢
                      refine wpAnyH_done (by kernel_rfl) ?_ _
                      try simp only [Act.put, List.getElem_toArray, List.getElem_cons_zero, List.getElem_cons_succ, List.setIfInBounds_toArray, List.set_cons_zero, List.set_cons_succ]
                      go_wp2
                      go_meet
                      exact ⟨a3, a5, rfl, rfl, c3, c5, hz, hY30, l3, l5⟩
          · go_simp
            refine hK.out _ _ (hY2.alloc hY2.size _) (fun hY31 => ?_)
            clear hK K
            try simp only [Act.put, List.getElem_toArray, List.getElem_cons_zero, List.getElem_cons_succ, List.setIfInBounds_toArray, List.set_cons_zero, List.set_cons_succ]
            replace hy := OwnY.alloc hy (.cells #[.int .i64 0, .int .i64 0] 24)
            have c3 := At2.new X2 0 0 24
            have l3 := hY2.size
            generalize X2.alloc (.cells #[.int .i64 0, .int .i64 0] 24) = X31 at c3 hY31 hy ⊢
            generalize X2.heap.size = a3 at c3 l3 ⊢
            refine wpAnyH_ready (rs := [4, 12]) (by kernel_rfl) (by simp) ?_
            refine cons7_4 rfl (fun K hK => ?_) (cons7_12 rfl (fun K hK => ?_) (AllReadyH.nil))
            · refine step_append_bytes rfl _ _ rfl F.heap.size _ la rfl hy _ lb rfl (HB0.out X31 hY31) (by have := HL.out; simp; omega) hY31.size ?_
              intro v32 X32 hy2 hb hg
              replace c3 := c3.grown hg (c3.ne_own (by decide) hy)
              clear hy hg
              refine hK.out _ _ (hY31.trans hb) (fun hY32 => ?_)
              clear hK K hb
              try simp only [Act.put, List.getElem_toArray, List.getElem_cons_zero, List.getElem_cons_succ, List.setIfInBounds_toArray, List.set_cons_zero, List.set_cons_succ]
              have hy := hy2
              clear hy2
              refine wpAnyH_ready (rs := [6, 12]) (by kernel_rfl) (by simp) ?_
              refine cons7_6 rfl (fun K hK => ?_) (cons7_12 rfl (fun K hK => ?_) (AllReadyH.nil))
              · go_simp
                refine (HD.out _ _ hY32 hy).mono ?_
                rintro e X33 ⟨z, rfl, hz0, hb⟩
                clear hy
                replace c3 := c3.below hb c3.lt
                have hz : OwnR X33 F.heap.size z out3 := hz0.base hY32.size
                clear hz0
                refine hK.out _ _ (hY32.trans (hb.mono hY32.size)) (fun hY33 => ?_)
                clear hK K hb
                try simp only [Act.put, List.getElem_toArray, List.getElem_cons_zero, List.getElem_cons_succ, List.setIfInBounds_toArray, List.set_cons_zero, List.set_cons_succ]
                refine wpAnyH_take (i := 7) (v := ?v7_30) rfl (by kernel_rfl) (by kernel_rfl) (by kernel_rfl) (fun _ _ _ h => h) (Or.inl ⟨by kernel_rfl, ?h7_30⟩) hY33 ?r7_30
                case h7_30 => (rintro w' hb; go_simp; try (with_reducible rfl))
                try simp only [Act.put, List.getElem_toArray, List.getElem_cons_zero, List.getElem_cons_succ, List.setIfInBounds_toArray, List.set_cons_zero, List.set_cons_succ]
                refine wpAnyH_take (i := 8) (v := ?v8_31) rfl (by kernel_rfl) (by kernel_rfl) (by kernel_rfl) (fun _ _ _ h => h) (Or.inl ⟨by kernel_rfl, ?h8_31⟩) hY33 ?r8_31
                case h8_31 => (rintro w' hb; go_simp; try (with_reducible rfl))
                try simp only [Act.put, List.getElem_toArray, List.getElem_cons_zero, List.getElem_cons_succ, List.setIfInBounds_toArray, List.set_cons_zero, List.set_cons_succ]
                refine wpAnyH_take (i := 9) (v := ?v9_32) rfl (by kernel_rfl) (by kernel_rfl) (by kernel_rfl) (fun _ _ _ h => h) (Or.inl ⟨by kernel_rfl, ?h9_32⟩) hY33 ?r9_32
                case h9_32 => (rintro w' hb; go_simp; try (with_reducible rfl))
                try simp only [Act.put, List.getElem_toArray, List.getElem_cons_zero, List.getElem_cons_succ, List.setIfInBounds_toArray, List.set_cons_zero, List.set_cons_succ]
                refine wpAnyH_take (i := 10) (v := ?v10_33) rfl (by kernel_rfl) (by kernel_rfl) (by kernel_rfl) (fun _ _ _ h => h) (Or.inl ⟨by kernel_rfl, ?h10_33⟩) hY33 ?r10_33
                case h10_33 => (rintro w' hb; go_simp; try (with_reducible rfl))
                try simp only [Act.put, List.getElem_toArray, List.getElem_cons_zero, List.getElem_cons_succ, List.setIfInBounds_toArray, List.set_cons_zero, List.set_cons_succ]
                refine wpAnyH_ready (rs := [12]) (by kernel_rfl) (by simp) ?_
                refine cons7_12 rfl (fun K hK => ?_) (AllReadyH.nil)
                · go_simp
                  refine hK.out _ _ (hY33.alloc hY33.size _) (fun hY34 => ?_)
                  clear hK K
                  try simp only [Act.put, List.getElem_toArray, List.getElem_cons_zero, List.getElem_cons_succ, List.setIfInBounds_toArray, List.set_cons_zero, List.set_cons_succ]
                  replace hz := OwnR.alloc hz (.cells #[.int .i64 0, .int .i64 0] 29)
                  replace c3 := c3.alloc (.cells #[.int .i64 0, .int .i64 0] 29)
                  have c5 := At2.new X33 0 0 29
                  have l5 := hY33.size
                  generalize X33.alloc (.cells #[.int .i64 0, .int .i64 0] 29) = X34 at c5 hY34 hz c3 ⊢
                  generalize X33.heap.size = a5 at c5 l5 ⊢
                  refine wpAnyH_take (i := 13) (v := ?v13_34) rfl (by kernel_rfl) (by kernel_rfl) (by kernel_rfl) (fun _ _ _ h => h) (Or.inl ⟨by kernel_rfl, ?h13_34⟩) hY34 ?r13_34
                  case h13_34 => (rintro w' hb; go_simp; try (with_reducible rfl))
                  try simp only [Act.put, List.getElem_toArray, List.getElem_cons_zero, List.getElem_cons_succ, List.setIfInBounds_toArray, List.set_cons_zero, List.set_cons_succ]
                  refine wpAnyH_ready (rs := [14]) (by kernel_rfl) (by simp) ?_
                  refine cons7_14 rfl (fun K hK => ?_) (AllReadyH.nil)
                  · obtain ⟨k0, k1, kf0, kf1, kl⟩ := c3.cells
                    go_simp
                    refine hK.out _ _ ((hY34.setCell (p := ⟨a3, 0, none⟩) l3 _).setCell (p := ⟨a3, 1, none⟩) l3 _) (fun hY35 => ?_)
                    clear hK K k0 k1 kf0 kf1 kl
                    try simp only [Act.put, List.getElem_toArray, List.getElem_cons_zero, List.getElem_cons_succ, List.setIfInBounds_toArray, List.set_cons_zero, List.set_cons_succ]
                    replace hz := hz.far c3 (by decide) (.int .i64 J0) (.int .i64 J1)
                    replace c5 := c5.off c3 (by decide) (.int .i64 J0) (.int .i64 J1)
                    replace c3 := c3.put J0 J1
                    generalize ((X34.setCell ⟨a3, 0, none⟩ (.int .i64 J0)).setCell ⟨a3, 1, none⟩ (.int .i64 J1)) = X35 at c3 c5 hz hY35 ⊢
                    refine wpAnyH_ready (rs := [15]) (by kernel_rfl) (by simp) ?_
                    refine cons7_15 rfl (fun K hK => ?_) (AllReadyH.nil)
                    · obtain ⟨k0, k1, kf0, kf1, kl⟩ := c5.cells
                      go_simp
                      refine hK.out _ _ ((hY35.setCell (p := ⟨a5, 0, none⟩) l5 _).setCell (p := ⟨a5, 1, none⟩) l5 _) (fun hY36 => ?_)
                      clear hK K k0 k1 kf0 kf1 kl
                      try simp only [Act.put, List.getElem_toArray, List.getElem_cons_zero, List.getElem_cons_succ, List.setIfInBounds_toArray, List.set_cons_zero, List.set_cons_succ]
                      replace hz := hz.far c5 (by decide) (.int .i64 K0) (.int .i64 K1)
                      replace c3 := c3.off c5 (by decide) (.int .i64 K0) (.int .i64 K1)
                      replace c5 := c5.put K0 K1
                      generalize ((X35.setCell ⟨a5, 0, none⟩ (.int .i64 K0)).setCell ⟨a5, 1, none⟩ (.int .i64 K1)) = X36 at c3 c5 hz hY36 ⊢
                      refine wpAnyH_done (by kernel_rfl) ?_ _
                      try simp only [Act.put, List.getElem_toArray, List.getElem_cons_zero, List.getElem_cons_succ, List.setIfInBounds_toArray, List.set_cons_zero, List.set_cons_succ]
                      go_wp2
                      go_meet
                      exact ⟨a3, a5, rfl, rfl, c3, c5, hz, hY36, l3, l5⟩
              · go_simp
                refine hK.out _ _ (hY32.alloc hY32.size _) (fun hY37 => ?_)
                clear hK K
                try simp only [Act.put, List.getElem_toArray, List.getElem_cons_zero, List.getElem_cons_succ, List.setIfInBounds_toArray, List.set_cons_zero, List.set_cons_succ]
                replace hy := OwnY.alloc hy (.cells #[.int .i64 0, .int .i64 0] 29)
                replace c3 := c3.alloc (.cells #[.int .i64 0, .int .i64 0] 29)
                have c5 := At2.new X32 0 0 29
                have l5 := hY32.size
                generalize X32.alloc (.cells #[.int .i64 0, .int .i64 0] 29) = X37 at c5 hY37 hy c3 ⊢
                generalize X32.heap.size = a5 at c5 l5 ⊢
                refine wpAnyH_ready (rs := [6]) (by kernel_rfl) (by simp) ?_
                refine cons7_6 rfl (fun K hK => ?_) (AllReadyH.nil)
                · go_simp
                  refine (HD.out _ _ hY37 hy).mono ?_
                  rintro e X38 ⟨z, rfl, hz0, hb⟩
                  clear hy
                  replace c3 := c3.below hb c3.lt
                  replace c5 := c5.below hb c5.lt
                  have hz : OwnR X38 F.heap.size z out3 := hz0.base hY37.size
                  clear hz0
                  refine hK.out _ _ (hY37.trans (hb.mono hY37.size)) (fun hY38 => ?_)
                  clear hK K hb
                  try simp only [Act.put, List.getElem_toArray, List.getElem_cons_zero, List.getElem_cons_succ, List.setIfInBounds_toArray, List.set_cons_zero, List.set_cons_succ]
                  refine wpAnyH_take (i := 7) (v := ?v7_35) rfl (by kernel_rfl) (by kernel_rfl) (by kernel_rfl) (fun _ _ _ h => h) (Or.inl ⟨by kernel_rfl, ?h7_35⟩) hY38 ?r7_35
                  case h7_35 => (rintro w' hb; go_simp; try (with_reducible rfl))
                  try simp only [Act.put, List.getElem_toArray, List.getElem_cons_zero, List.getElem_cons_succ, List.setIfInBounds_toArray, List.set_cons_zero, List.set_cons_succ]
                  refine wpAnyH_take (i := 8) (v := ?v8_36) rfl (by kernel_rfl) (by kernel_rfl) (by kernel_rfl) (fun _ _ _ h => h) (Or.inl ⟨by kernel_rfl, ?h8_36⟩) hY38 ?r8_36
                  case h8_36 => (rintro w' hb; go_simp; try (with_reducible rfl))
                  try simp only [Act.put, List.getElem_toArray, List.getElem_cons_zero, List.getElem_cons_succ, List.setIfInBounds_toArray, List.set_cons_zero, List.set_cons_succ]
                  refine wpAnyH_take (i := 9) (v := ?v9_37) rfl (by kernel_rfl) (by kernel_rfl) (by kernel_rfl) (fun _ _ _ h => h) (Or.inl ⟨by kernel_rfl, ?h9_37⟩) hY38 ?r9_37
                  case h9_37 => (rintro w' hb; go_simp; try (with_reducible rfl))
                  try simp only [Act.put, List.getElem_toArray, List.getElem_cons_zero, List.getElem_cons_succ, List.setIfInBounds_toArray, List.set_cons_zero, List.set_cons_succ]
                  refine wpAnyH_take (i := 10) (v := ?v10_38) rfl (by kernel_rfl) (by kernel_rfl) (by kernel_rfl) (fun _ _ _ h => h) (Or.inl ⟨by kernel_rfl, ?h10_38⟩) hY38 ?r10_38
                  case h10_38 => (rintro w' hb; go_simp; try (with_reducible rfl))
                  try simp only [Act.put, List.getElem_toArray, List.getElem_cons_zero, List.getElem_cons_succ, List.setIfInBounds_toArray, List.set_cons_zero, List.set_cons_succ]
                  refine wpAnyH_take (i := 13) (v := ?v13_39) rfl (by kernel_rfl) (by kernel_rfl) (by kernel_rfl) (fun _ _ _ h => h) (Or.inl ⟨by kernel_rfl, ?h13_39⟩) hY38 ?r13_39
                  case h13_39 => (rintro w' hb; go_simp; try (with_reducible rfl))
                  try simp only [Act.put, List.getElem_toArray, List.getElem_cons_zero, List.getElem_cons_succ, List.setIfInBounds_toArray, List.set_cons_zero, List.set_cons_succ]
                  refine wpAnyH_ready (rs := [14]) (by kernel_rfl) (by simp) ?_
                  refine cons7_14 rfl (fun K hK => ?_) (AllReadyH.nil)
                  · obtain ⟨k0, k1, kf0, kf1, kl⟩ := c3.cells
                    go_simp
                    refine hK.out _ _ ((hY38.setCell (p := ⟨a3, 0, none⟩) l3 _).setCell (p := ⟨a3, 1, none⟩) l3 _) (fun hY39 => ?_)
                    clear hK K k0 k1 kf0 kf1 kl
                    try simp only [Act.put, List.getElem_toArray, List.getElem_cons_zero, List.getElem_cons_succ, List.setIfInBounds_toArray, List.set_cons_zero, List.set_cons_succ]
                    replace hz := hz.far c3 (by decide) (.int .i64 J0) (.int .i64 J1)
                    replace c5 := c5.off c3 (by decide) (.int .i64 J0) (.int .i64 J1)
                    replace c3 := c3.put J0 J1
                    generalize ((X38.setCell ⟨a3, 0, none⟩ (.int .i64 J0)).setCell ⟨a3, 1, none⟩ (.int .i64 J1)) = X39 at c3 c5 hz hY39 ⊢
                    refine wpAnyH_ready (rs := [15]) (by kernel_rfl) (by simp) ?_
                    refine cons7_15 rfl (fun K hK => ?_) (AllReadyH.nil)
                    · obtain ⟨k0, k1, kf0, kf1, kl⟩ := c5.cells
                      go_simp
                      refine hK.out _ _ ((hY39.setCell (p := ⟨a5, 0, none⟩) l5 _).setCell (p := ⟨a5, 1, none⟩) l5 _) (fun hY40 => ?_)
                      clear hK K k0 k1 kf0 kf1 kl
                      try simp only [Act.put, List.getElem_toArray, List.getElem_cons_zero, List.getElem_cons_succ, List.setIfInBounds_toArray, List.set_cons_zero, List.set_cons_succ]
                      replace hz := hz.far c5 (by decide) (.int .i64 K0) (.int .i64 K1)
                      replace c3 := c3.off c5 (by decide) (.int .i64 K0) (.int .i64 K1)
                      replace c5 := c5.put K0 K1
                      generalize ((X39.setCell ⟨a5, 0, none⟩ (.int .i64 K0)).setCell ⟨a5, 1, none⟩ (.int .i64 K1)) = X40 at c3 c5 hz hY40 ⊢
                      refine wpAnyH_done (by kernel_rfl) ?_ _
                      try simp only [Act.put, List.getElem_toArray, List.getElem_cons_zero, List.getElem_cons_succ, List.setIfInBounds_toArray, List.set_cons_zero, List.set_cons_succ]
                      go_wp2
                      go_meet
                      exact ⟨a3, a5, rfl, rfl, c3, c5, hz, hY40, l3, l5⟩
            · go_simp
              refine hK.out _ _ (hY31.alloc hY31.size _) (fun hY41 => ?_)
              clear hK K
              try simp only [Act.put, List.getElem_toArray, List.getElem_cons_zero, List.getElem_cons_succ, List.setIfInBounds_toArray, List.set_cons_zero, List.set_cons_succ]
              replace hy := OwnY.alloc hy (.cells #[.int .i64 0, .int .i64 0] 29)
              replace c3 := c3.alloc (.cells #[.int .i64 0, .int .i64 0] 29)
              have c5 := At2.new X31 0 0 29
              have l5 := hY31.size
              generalize X31.alloc (.cells #[.int .i64 0, .int .i64 0] 29) = X41 at c5 hY41 hy c3 ⊢
              generalize X31.heap.size = a5 at c5 l5 ⊢
              refine wpAnyH_ready (rs := [4]) (by kernel_rfl) (by simp) ?_
              refine cons7_4 rfl (fun K hK => ?_) (AllReadyH.nil)
              · refine step_append_bytes rfl _ _ rfl F.heap.size _ la rfl hy _ lb rfl (HB0.out X41 hY41) (by have := HL.out; simp; omega) hY41.size ?_
                intro v42 X42 hy2 hb hg
                replace c3 := c3.grown hg (c3.ne_own (by decide) hy)
                replace c5 := c5.grown hg (c5.ne_own (by decide) hy)
                clear hy hg
                refine hK.out _ _ (hY41.trans hb) (fun hY42 => ?_)
                clear hK K hb
                try simp only [Act.put, List.getElem_toArray, List.getElem_cons_zero, List.getElem_cons_succ, List.setIfInBounds_toArray, List.set_cons_zero, List.set_cons_succ]
                have hy := hy2
                clear hy2
                refine wpAnyH_ready (rs := [6]) (by kernel_rfl) (by simp) ?_
                refine cons7_6 rfl (fun K hK => ?_) (AllReadyH.nil)
                · go_simp
                  refine (HD.out _ _ hY42 hy).mono ?_
                  rintro e X43 ⟨z, rfl, hz0, hb⟩
                  clear hy
                  replace c3 := c3.below hb c3.lt
                  replace c5 := c5.below hb c5.lt
                  have hz : OwnR X43 F.heap.size z out3 := hz0.base hY42.size
                  clear hz0
                  refine hK.out _ _ (hY42.trans (hb.mono hY42.size)) (fun hY43 => ?_)
                  clear hK K hb
                  try simp only [Act.put, List.getElem_toArray, List.getElem_cons_zero, List.getElem_cons_succ, List.setIfInBounds_toArray, List.set_cons_zero, List.set_cons_succ]
                  refine wpAnyH_take (i := 7) (v := ?v7_40) rfl (by kernel_rfl) (by kernel_rfl) (by kernel_rfl) (fun _ _ _ h => h) (Or.inl ⟨by kernel_rfl, ?h7_40⟩) hY43 ?r7_40
                  case h7_40 => (rintro w' hb; go_simp; try (with_reducible rfl))
                  try simp only [Act.put, List.getElem_toArray, List.getElem_cons_zero, List.getElem_cons_succ, List.setIfInBounds_toArray, List.set_cons_zero, List.set_cons_succ]
                  refine wpAnyH_take (i := 8) (v := ?v8_41) rfl (by kernel_rfl) (by kernel_rfl) (by kernel_rfl) (fun _ _ _ h => h) (Or.inl ⟨by kernel_rfl, ?h8_41⟩) hY43 ?r8_41
                  case h8_41 => (rintro w' hb; go_simp; try (with_reducible rfl))
                  try simp only [Act.put, List.getElem_toArray, List.getElem_cons_zero, List.getElem_cons_succ, List.setIfInBounds_toArray, List.set_cons_zero, List.set_cons_succ]
                  refine wpAnyH_take (i := 9) (v := ?v9_42) rfl (by kernel_rfl) (by kernel_rfl) (by kernel_rfl) (fun _ _ _ h => h) (Or.inl ⟨by kernel_rfl, ?h9_42⟩) hY43 ?r9_42
                  case h9_42 => (rintro w' hb; go_simp; try (with_reducible rfl))
                  try simp only [Act.put, List.getElem_toArray, List.getElem_cons_zero, List.getElem_cons_succ, List.setIfInBounds_toArray, List.set_cons_zero, List.set_cons_succ]
                  refine wpAnyH_take (i := 10) (v := ?v10_43) rfl (by kernel_rfl) (by kernel_rfl) (by kernel_rfl) (fun _ _ _ h => h) (Or.inl ⟨by kernel_rfl, ?h10_43⟩) hY43 ?r10_43
                  case h10_43 => (rintro w' hb; go_simp; try (with_reducible rfl))
                  try simp only [Act.put, List.getElem_toArray, List.getElem_cons_zero, List.getElem_cons_succ, List.setIfInBounds_toArray, List.set_cons_zero, List.set_cons_succ]
                  refine wpAnyH_take (i := 13) (v := ?v13_44) rfl (by kernel_rfl) (by kernel_rfl) (by kernel_rfl) (fun _ _ _ h => h) (Or.inl ⟨by kernel_rfl, ?h13_44⟩) hY43 ?r13_44
                  case h13_44 => (rintro w' hb; go_simp; try (with_reducible rfl))
                  try simp only [Act.put, List.getElem_toArray, List.getElem_cons_zero, List.getElem_cons_succ, List.setIfInBounds_toArray, List.set_cons_zero, List.set_cons_succ]
                  refine wpAnyH_ready (rs := [14]) (by kernel_rfl) (by simp) ?_
                  refine cons7_14 rfl (fun K hK => ?_) (AllReadyH.nil)
                  · obtain ⟨k0, k1, kf0, kf1, kl⟩ := c3.cells
                    go_simp
                    refine hK.out _ _ ((hY43.setCell (p := ⟨a3, 0, none⟩) l3 _).setCell (p := ⟨a3, 1, none⟩) l3 _) (fun hY44 => ?_)
                    clear hK K k0 k1 kf0 kf1 kl
                    try simp only [Act.put, List.getElem_toArray, List.getElem_cons_zero, List.getElem_cons_succ, List.setIfInBounds_toArray, List.set_cons_zero, List.set_cons_succ]
                    replace hz := hz.far c3 (by decide) (.int .i64 J0) (.int .i64 J1)
                    replace c5 := c5.off c3 (by decide) (.int .i64 J0) (.int .i64 J1)
                    replace c3 := c3.put J0 J1
                    generalize ((X43.setCell ⟨a3, 0, none⟩ (.int .i64 J0)).setCell ⟨a3, 1, none⟩ (.int .i64 J1)) = X44 at c3 c5 hz hY44 ⊢
                    refine wpAnyH_ready (rs := [15]) (by kernel_rfl) (by simp) ?_
                    refine cons7_15 rfl (fun K hK => ?_) (AllReadyH.nil)
                    · obtain ⟨k0, k1, kf0, kf1, kl⟩ := c5.cells
                      go_simp
                      refine hK.out _ _ ((hY44.setCell (p := ⟨a5, 0, none⟩) l5 _).setCell (p := ⟨a5, 1, none⟩) l5 _) (fun hY45 => ?_)
                      clear hK K k0 k1 kf0 kf1 kl
                      try simp only [Act.put, List.getElem_toArray, List.getElem_cons_zero, List.getElem_cons_succ, List.setIfInBounds_toArray, List.set_cons_zero, List.set_cons_succ]
                      replace hz := hz.far c5 (by decide) (.int .i64 K0) (.int .i64 K1)
                      replace c3 := c3.off c5 (by decide) (.int .i64 K0) (.int .i64 K1)
                      replace c5 := c5.put K0 K1
                      generalize ((X44.setCell ⟨a5, 0, none⟩ (.int .i64 K0)).setCell ⟨a5, 1, none⟩ (.int .i64 K1)) = X45 at c3 c5 hz hY45 ⊢
                      refine wpAnyH_done (by kernel_rfl) ?_ _
                      try simp only [Act.put, List.getElem_toArray, List.getElem_cons_zero, List.getElem_cons_succ, List.setIfInBounds_toArray, List.set_cons_zero, List.set_cons_succ]
                      go_wp2
                      go_meet
                      exact ⟨a3, a5, rfl, rfl, c3, c5, hz, hY45, l3, l5⟩
          · go_simp
            refine hK.out _ _ (hY2.alloc hY2.size _) (fun hY46 => ?_)
            clear hK K
            try simp only [Act.put, List.getElem_toArray, List.getElem_cons_zero, List.getElem_cons_succ, List.setIfInBounds_toArray, List.set_cons_zero, List.set_cons_succ]
            replace hy := OwnY.alloc hy (.cells #[.int .i64 0, .int .i64 0] 29)
            have c5 := At2.new X2 0 0 29
            have l5 := hY2.size
            generalize X2.alloc (.cells #[.int .i64 0, .int .i64 0] 29) = X46 at c5 hY46 hy ⊢
            generalize X2.heap.size = a5 at c5 l5 ⊢
            refine wpAnyH_ready (rs := [4, 11]) (by kernel_rfl) (by simp) ?_
            refine cons7_4 rfl (fun K hK => ?_) (cons7_11 rfl (fun K hK => ?_) (AllReadyH.nil))
            · refine step_append_bytes rfl _ _ rfl F.heap.size _ la rfl hy _ lb rfl (HB0.out X46 hY46) (by have := HL.out; simp; omega) hY46.size ?_
              intro v47 X47 hy2 hb hg
              replace c5 := c5.grown hg (c5.ne_own (by decide) hy)
              clear hy hg
              refine hK.out _ _ (hY46.trans hb) (fun hY47 => ?_)
              clear hK K hb
              try simp only [Act.put, List.getElem_toArray, List.getElem_cons_zero, List.getElem_cons_succ, List.setIfInBounds_toArray, List.set_cons_zero, List.set_cons_succ]
              have hy := hy2
              clear hy2
              refine wpAnyH_ready (rs := [6, 11]) (by kernel_rfl) (by simp) ?_
              refine cons7_6 rfl (fun K hK => ?_) (cons7_11 rfl (fun K hK => ?_) (AllReadyH.nil))
              · go_simp
                refine (HD.out _ _ hY47 hy).mono ?_
                rintro e X48 ⟨z, rfl, hz0, hb⟩
                clear hy
                replace c5 := c5.below hb c5.lt
                have hz : OwnR X48 F.heap.size z out3 := hz0.base hY47.size
                clear hz0
                refine hK.out _ _ (hY47.trans (hb.mono hY47.size)) (fun hY48 => ?_)
                clear hK K hb
                try simp only [Act.put, List.getElem_toArray, List.getElem_cons_zero, List.getElem_cons_succ, List.setIfInBounds_toArray, List.set_cons_zero, List.set_cons_succ]
                refine wpAnyH_take (i := 7) (v := ?v7_45) rfl (by kernel_rfl) (by kernel_rfl) (by kernel_rfl) (fun _ _ _ h => h) (Or.inl ⟨by kernel_rfl, ?h7_45⟩) hY48 ?r7_45
                case h7_45 => (rintro w' hb; go_simp; try (with_reducible rfl))
                try simp only [Act.put, List.getElem_toArray, List.getElem_cons_zero, List.getElem_cons_succ, List.setIfInBounds_toArray, List.set_cons_zero, List.set_cons_succ]
                refine wpAnyH_take (i := 8) (v := ?v8_46) rfl (by kernel_rfl) (by kernel_rfl) (by kernel_rfl) (fun _ _ _ h => h) (Or.inl ⟨by kernel_rfl, ?h8_46⟩) hY48 ?r8_46
                case h8_46 => (rintro w' hb; go_simp; try (with_reducible rfl))
                try simp only [Act.put, List.getElem_toArray, List.getElem_cons_zero, List.getElem_cons_succ, List.setIfInBounds_toArray, List.set_cons_zero, List.set_cons_succ]
                refine wpAnyH_take (i := 9) (v := ?v9_47) rfl (by kernel_rfl) (by kernel_rfl) (by kernel_rfl) (fun _ _ _ h => h) (Or.inl ⟨by kernel_rfl, ?h9_47⟩) hY48 ?r9_47
                case h9_47 => (rintro w' hb; go_simp; try (with_reducible rfl))
                try simp only [Act.put, List.getElem_toArray, List.getElem_cons_zero, List.getElem_cons_succ, List.setIfInBounds_toArray, List.set_cons_zero, List.set_cons_succ]
                refine wpAnyH_take (i := 10) (v := ?v10_48) rfl (by kernel_rfl) (by kernel_rfl) (by kernel_rfl) (fun _ _ _ h => h) (Or.inl ⟨by kernel_rfl, ?h10_48⟩) hY48 ?r10_48
                case h10_48 => (rintro w' hb; go_simp; try (with_reducible rfl))
                try simp only [Act.put, List.getElem_toArray, List.getElem_cons_zero, List.getElem_cons_succ, List.setIfInBounds_toArray, List.set_cons_zero, List.set_cons_succ]
                refine wpAnyH_ready (rs := [11]) (by kernel_rfl) (by simp) ?_
                refine cons7_11 rfl (fun K hK => ?_) (AllReadyH.nil)
                · go_simp
                  refine hK.out _ _ (hY48.alloc hY48.size _) (fun hY49 => ?_)
                  clear hK K
                  try simp only [Act.put, List.getElem_toArray, List.getElem_cons_zero, List.getElem_cons_succ, List.setIfInBounds_toArray, List.set_cons_zero, List.set_cons_succ]
                  replace hz := OwnR.alloc hz (.cells #[.int .i64 0, .int .i64 0] 24)
                  replace c5 := c5.alloc (.cells #[.int .i64 0, .int .i64 0] 24)
                  have c3 := At2.new X48 0 0 24
                  have l3 := hY48.size
                  generalize X48.alloc (.cells #[.int .i64 0, .int .i64 0] 24) = X49 at c3 hY49 hz c5 ⊢
                  generalize X48.heap.size = a3 at c3 l3 ⊢
                  refine wpAnyH_take (i := 13) (v := ?v13_49) rfl (by kernel_rfl) (by kernel_rfl) (by kernel_rfl) (fun _ _ _ h => h) (Or.inl ⟨by kernel_rfl, ?h13_49⟩) hY49 ?r13_49
                  case h13_49 => (rintro w' hb; go_simp; try (with_reducible rfl))
                  try simp only [Act.put, List.getElem_toArray, List.getElem_cons_zero, List.getElem_cons_succ, List.setIfInBounds_toArray, List.set_cons_zero, List.set_cons_succ]
                  refine wpAnyH_ready (rs := [14]) (by kernel_rfl) (by simp) ?_
                  refine cons7_14 rfl (fun K hK => ?_) (AllReadyH.nil)
                  · obtain ⟨k0, k1, kf0, kf1, kl⟩ := c3.cells
                    go_simp
                    refine hK.out _ _ ((hY49.setCell (p := ⟨a3, 0, none⟩) l3 _).setCell (p := ⟨a3, 1, none⟩) l3 _) (fun hY50 => ?_)
                    clear hK K k0 k1 kf0 kf1 kl
                    try simp only [Act.put, List.getElem_toArray, List.getElem_cons_zero, List.getElem_cons_succ, List.setIfInBounds_toArray, List.set_cons_zero, List.set_cons_succ]
                    replace hz := hz.far c3 (by decide) (.int .i64 J0) (.int .i64 J1)
                    replace c5 := c5.off c3 (by decide) (.int .i64 J0) (.int .i64 J1)
                    replace c3 := c3.put J0 J1
                    generalize ((X49.setCell ⟨a3, 0, none⟩ (.int .i64 J0)).setCell ⟨a3, 1, none⟩ (.int .i64 J1)) = X50 at c3 c5 hz hY50 ⊢
                    refine wpAnyH_ready (rs := [15]) (by kernel_rfl) (by simp) ?_
                    refine cons7_15 rfl (fun K hK => ?_) (AllReadyH.nil)
                    · obtain ⟨k0, k1, kf0, kf1, kl⟩ := c5.cells
                      go_simp
                      refine hK.out _ _ ((hY50.setCell (p := ⟨a5, 0, none⟩) l5 _).setCell (p := ⟨a5, 1, none⟩) l5 _) (fun hY51 => ?_)
                      clear hK K k0 k1 kf0 kf1 kl
                      try simp only [Act.put, List.getElem_toArray, List.getElem_cons_zero, List.getElem_cons_succ, List.setIfInBounds_toArray, List.set_cons_zero, List.set_cons_succ]
                      replace hz := hz.far c5 (by decide) (.int .i64 K0) (.int .i64 K1)
                      replace c3 := c3.off c5 (by decide) (.int .i64 K0) (.int .i64 K1)
                      replace c5 := c5.put K0 K1
                      generalize ((X50.setCell ⟨a5, 0, none⟩ (.int .i64 K0)).setCell ⟨a5, 1, none⟩ (.int .i64 K1)) = X51 at c3 c5 hz hY51 ⊢
                      refine wpAnyH_done (by kernel_rfl) ?_ _
                      try simp only [Act.put, List.getElem_toArray, List.getElem_cons_zero, List.getElem_cons_succ, List.setIfInBounds_toArray, List.set_cons_zero, List.set_cons_succ]
                      go_wp2
                      go_meet
                      exact ⟨a3, a5, rfl, rfl, c3, c5, hz, hY51, l3, l5⟩
              · go_simp
                refine hK.out _ _ (hY47.alloc hY47.size _) (fun hY52 => ?_)
                clear hK K
                try simp only [Act.put, List.getElem_toArray, List.getElem_cons_zero, List.getElem_cons_succ, List.setIfInBounds_toArray, List.set_cons_zero, List.set_cons_succ]
                replace hy := OwnY.alloc hy (.cells #[.int .i64 0, .int .i64 0] 24)
                replace c5 := c5.alloc (.cells #[.int .i64 0, .int .i64 0] 24)
                have c3 := At2.new X47 0 0 24
                have l3 := hY47.size
                generalize X47.alloc (.cells #[.int .i64 0, .int .i64 0] 24) = X52 at c3 hY52 hy c5 ⊢
                generalize X47.heap.size = a3 at c3 l3 ⊢
                refine wpAnyH_ready (rs := [6]) (by kernel_rfl) (by simp) ?_
                refine cons7_6 rfl (fun K hK => ?_) (AllReadyH.nil)
                · go_simp
                  refine (HD.out _ _ hY52 hy).mono ?_
                  rintro e X53 ⟨z, rfl, hz0, hb⟩
                  clear hy
                  replace c3 := c3.below hb c3.lt
                  replace c5 := c5.below hb c5.lt
                  have hz : OwnR X53 F.heap.size z out3 := hz0.base hY52.size
                  clear hz0
                  refine hK.out _ _ (hY52.trans (hb.mono hY52.size)) (fun hY53 => ?_)
                  clear hK K hb
                  try simp only [Act.put, List.getElem_toArray, List.getElem_cons_zero, List.getElem_cons_succ, List.setIfInBounds_toArray, List.set_cons_zero, List.set_cons_succ]
                  refine wpAnyH_take (i := 7) (v := ?v7_50) rfl (by kernel_rfl) (by kernel_rfl) (by kernel_rfl) (fun _ _ _ h => h) (Or.inl ⟨by kernel_rfl, ?h7_50⟩) hY53 ?r7_50
                  case h7_50 => (rintro w' hb; go_simp; try (with_reducible rfl))
                  try simp only [Act.put, List.getElem_toArray, List.getElem_cons_zero, List.getElem_cons_succ, List.setIfInBounds_toArray, List.set_cons_zero, List.set_cons_succ]
                  refine wpAnyH_take (i := 8) (v := ?v8_51) rfl (by kernel_rfl) (by kernel_rfl) (by kernel_rfl) (fun _ _ _ h => h) (Or.inl ⟨by kernel_rfl, ?h8_51⟩) hY53 ?r8_51
                  case h8_51 => (rintro w' hb; go_simp; try (with_reducible rfl))
                  try simp only [Act.put, List.getElem_toArray, List.getElem_cons_zero, List.getElem_cons_succ, List.setIfInBounds_toArray, List.set_cons_zero, List.set_cons_succ]
                  refine wpAnyH_take (i := 9) (v := ?v9_52) rfl (by kernel_rfl) (by kernel_rfl) (by kernel_rfl) (fun _ _ _ h => h) (Or.inl ⟨by kernel_rfl, ?h9_52⟩) hY53 ?r9_52
                  case h9_52 => (rintro w' hb; go_simp; try (with_reducible rfl))
                  try simp only [Act.put, List.getElem_toArray, List.getElem_cons_zero, List.getElem_cons_succ, List.setIfInBounds_toArray, List.set_cons_zero, List.set_cons_succ]
                  refine wpAnyH_take (i := 10) (v := ?v10_53) rfl (by kernel_rfl) (by kernel_rfl) (by kernel_rfl) (fun _ _ _ h => h) (Or.inl ⟨by kernel_rfl, ?h10_53⟩) hY53 ?r10_53
                  case h10_53 => (rintro w' hb; go_simp; try (with_reducible rfl))
                  try simp only [Act.put, List.getElem_toArray, List.getElem_cons_zero, List.getElem_cons_succ, List.setIfInBounds_toArray, List.set_cons_zero, List.set_cons_succ]
                  refine wpAnyH_take (i := 13) (v := ?v13_54) rfl (by kernel_rfl) (by kernel_rfl) (by kernel_rfl) (fun _ _ _ h => h) (Or.inl ⟨by kernel_rfl, ?h13_54⟩) hY53 ?r13_54
                  case h13_54 => (rintro w' hb; go_simp; try (with_reducible rfl))
                  try simp only [Act.put, List.getElem_toArray, List.getElem_cons_zero, List.getElem_cons_succ, List.setIfInBounds_toArray, List.set_cons_zero, List.set_cons_succ]
                  refine wpAnyH_ready (rs := [14]) (by kernel_rfl) (by simp) ?_
                  refine cons7_14 rfl (fun K hK => ?_) (AllReadyH.nil)
                  · obtain ⟨k0, k1, kf0, kf1, kl⟩ := c3.cells
                    go_simp
                    refine hK.out _ _ ((hY53.setCell (p := ⟨a3, 0, none⟩) l3 _).setCell (p := ⟨a3, 1, none⟩) l3 _) (fun hY54 => ?_)
                    clear hK K k0 k1 kf0 kf1 kl
                    try simp only [Act.put, List.getElem_toArray, List.getElem_cons_zero, List.getElem_cons_succ, List.setIfInBounds_toArray, List.set_cons_zero, List.set_cons_succ]
                    replace hz := hz.far c3 (by decide) (.int .i64 J0) (.int .i64 J1)
                    replace c5 := c5.off c3 (by decide) (.int .i64 J0) (.int .i64 J1)
                    replace c3 := c3.put J0 J1
                    generalize ((X53.setCell ⟨a3, 0, none⟩ (.int .i64 J0)).setCell ⟨a3, 1, none⟩ (.int .i64 J1)) = X54 at c3 c5 hz hY54 ⊢
                    refine wpAnyH_ready (rs := [15]) (by kernel_rfl) (by simp) ?_
                    refine cons7_15 rfl (fun K hK => ?_) (AllReadyH.nil)
                    · obtain ⟨k0, k1, kf0, kf1, kl⟩ := c5.cells
                      go_simp
                      refine hK.out _ _ ((hY54.setCell (p := ⟨a5, 0, none⟩) l5 _).setCell (p := ⟨a5, 1, none⟩) l5 _) (fun hY55 => ?_)
                      clear hK K k0 k1 kf0 kf1 kl
                      try simp only [Act.put, List.getElem_toArray, List.getElem_cons_zero, List.getElem_cons_succ, List.setIfInBounds_toArray, List.set_cons_zero, List.set_cons_succ]
                      replace hz := hz.far c5 (by decide) (.int .i64 K0) (.int .i64 K1)
                      replace c3 := c3.off c5 (by decide) (.int .i64 K0) (.int .i64 K1)
                      replace c5 := c5.put K0 K1
                      generalize ((X54.setCell ⟨a5, 0, none⟩ (.int .i64 K0)).setCell ⟨a5, 1, none⟩ (.int .i64 K1)) = X55 at c3 c5 hz hY55 ⊢
                      refine wpAnyH_done (by kernel_rfl) ?_ _
                      try simp only [Act.put, List.getElem_toArray, List.getElem_cons_zero, List.getElem_cons_succ, List.setIfInBounds_toArray, List.set_cons_zero, List.set_cons_succ]
                      go_wp2
                      go_meet
                      exact ⟨a3, a5, rfl, rfl, c3, c5, hz, hY55, l3, l5⟩
            · go_simp
              refine hK.out _ _ (hY46.alloc hY46.size _) (fun hY56 => ?_)
              clear hK K
              try simp only [Act.put, List.getElem_toArray, List.getElem_cons_zero, List.getElem_cons_succ, List.setIfInBounds_toArray, List.set_cons_zero, List.set_cons_succ]
              replace hy := OwnY.alloc hy (.cells #[.int .i64 0, .int .i64 0] 24)
              replace c5 := c5.alloc (.cells #[.int .i64 0, .int .i64 0] 24)
              have c3 := At2.new X46 0 0 24
              have l3 := hY46.size
              generalize X46.alloc (.cells #[.int .i64 0, .int .i64 0] 24) = X56 at c3 hY56 hy c5 ⊢
              generalize X46.heap.size = a3 at c3 l3 ⊢
              refine wpAnyH_ready (rs := [4]) (by kernel_rfl) (by simp) ?_
              refine cons7_4 rfl (fun K hK => ?_) (AllReadyH.nil)
              · refine step_append_bytes rfl _ _ rfl F.heap.size _ la rfl hy _ lb rfl (HB0.out X56 hY56) (by have := HL.out; simp; omega) hY56.size ?_
                intro v57 X57 hy2 hb hg
                replace c3 := c3.grown hg (c3.ne_own (by decide) hy)
                replace c5 := c5.grown hg (c5.ne_own (by decide) hy)
                clear hy hg
                refine hK.out _ _ (hY56.trans hb) (fun hY57 => ?_)
                clear hK K hb
                try simp only [Act.put, List.getElem_toArray, List.getElem_cons_zero, List.getElem_cons_succ, List.setIfInBounds_toArray, List.set_cons_zero, List.set_cons_succ]
                have hy := hy2
                clear hy2
                refine wpAnyH_ready (rs := [6]) (by kernel_rfl) (by simp) ?_
                refine cons7_6 rfl (fun K hK => ?_) (AllReadyH.nil)
                · go_simp
                  refine (HD.out _ _ hY57 hy).mono ?_
                  rintro e X58 ⟨z, rfl, hz0, hb⟩
                  clear hy
                  replace c3 := c3.below hb c3.lt
                  replace c5 := c5.below hb c5.lt
                  have hz : OwnR X58 F.heap.size z out3 := hz0.base hY57.size
                  clear hz0
                  refine hK.out _ _ (hY57.trans (hb.mono hY57.size)) (fun hY58 => ?_)
                  clear hK K hb
                  try simp only [Act.put, List.getElem_toArray, List.getElem_cons_zero, List.getElem_cons_succ, List.setIfInBounds_toArray, List.set_cons_zero, List.set_cons_succ]
                  refine wpAnyH_take (i := 7) (v := ?v7_55) rfl (by kernel_rfl) (by kernel_rfl) (by kernel_rfl) (fun _ _ _ h => h) (Or.inl ⟨by kernel_rfl, ?h7_55⟩) hY58 ?r7_55
                  case h7_55 => (rintro w' hb; go_simp; try (with_reducible rfl))
                  try simp only [Act.put, List.getElem_toArray, List.getElem_cons_zero, List.getElem_cons_succ, List.setIfInBounds_toArray, List.set_cons_zero, List.set_cons_succ]
                  refine wpAnyH_take (i := 8) (v := ?v8_56) rfl (by kernel_rfl) (by kernel_rfl) (by kernel_rfl) (fun _ _ _ h => h) (Or.inl ⟨by kernel_rfl, ?h8_56⟩) hY58 ?r8_56
                  case h8_56 => (rintro w' hb; go_simp; try (with_reducible rfl))
                  try simp only [Act.put, List.getElem_toArray, List.getElem_cons_zero, List.getElem_cons_succ, List.setIfInBounds_toArray, List.set_cons_zero, List.set_cons_succ]
                  refine wpAnyH_take (i := 9) (v := ?v9_57) rfl (by kernel_rfl) (by kernel_rfl) (by kernel_rfl) (fun _ _ _ h => h) (Or.inl ⟨by kernel_rfl, ?h9_57⟩) hY58 ?r9_57
                  case h9_57 => (rintro w' hb; go_simp; try (with_reducible rfl))
                  try simp only [Act.put, List.getElem_toArray, List.getElem_cons_zero, List.getElem_cons_succ, List.setIfInBounds_toArray, List.set_cons_zero, List.set_cons_succ]
                  refine wpAnyH_take (i := 10) (v := ?v10_58) rfl (by kernel_rfl) (by kernel_rfl) (by kernel_rfl) (fun _ _ _ h => h) (Or.inl ⟨by kernel_rfl, ?h10_58⟩) hY58 ?r10_58
                  case h10_58 => (rintro w' hb; go_simp; try (with_reducible rfl))
                  try simp only [Act.put, List.getElem_toArray, List.getElem_cons_zero, List.getElem_cons_succ, List.setIfInBounds_toArray, List.set_cons_zero, List.set_cons_succ]
                  refine wpAnyH_take (i := 13) (v := ?v13_59) rfl (by kernel_rfl) (by kernel_rfl) (by kernel_rfl) (fun _ _ _ h => h) (Or.inl ⟨by kernel_rfl, ?h13_59⟩) hY58 ?r13_59
                  case h13_59 => (rintro w' hb; go_simp; try (with_reducible rfl))
                  try simp only [Act.put, List.getElem_toArray, List.getElem_cons_zero, List.getElem_cons_succ, List.setIfInBounds_toArray, List.set_cons_zero, List.set_cons_succ]
                  refine wpAnyH_ready (rs := [14]) (by kernel_rfl) (by simp) ?_
                  refine cons7_14 rfl (fun K hK => ?_) (AllReadyH.nil)
                  · obtain ⟨k0, k1, kf0, kf1, kl⟩ := c3.cells
                    go_simp
                    refine hK.out _ _ ((hY58.setCell (p := ⟨a3, 0, none⟩) l3 _).setCell (p := ⟨a3, 1, none⟩) l3 _) (fun hY59 => ?_)
                    clear hK K k0 k1 kf0 kf1 kl
                    try simp only [Act.put, List.getElem_toArray, List.getElem_cons_zero, List.getElem_cons_succ, List.setIfInBounds_toArray, List.set_cons_zero, List.set_cons_succ]
                    replace hz := hz.far c3 (by decide) (.int .i64 J0) (.int .i64 J1)
                    replace c5 := c5.off c3 (by decide) (.int .i64 J0) (.int .i64 J1)
                    replace c3 := c3.put J0 J1
                    generalize ((X58.setCell ⟨a3, 0, none⟩ (.int .i64 J0)).setCell ⟨a3, 1, none⟩ (.int .i64 J1)) = X59 at c3 c5 hz hY59 ⊢
                    refine wpAnyH_ready (rs := [15]) (by kernel_rfl) (by simp) ?_
                    refine cons7_15 rfl (fun K hK => ?_) (AllReadyH.nil)
                    · obtain ⟨k0, k1, kf0, kf1, kl⟩ := c5.cells
                      go_simp
                      refine hK.out _ _ ((hY59.setCell (p := ⟨a5, 0, none⟩) l5 _).setCell (p := ⟨a5, 1, none⟩) l5 _) (fun hY60 => ?_)
                      clear hK K k0 k1 kf0 kf1 kl
                      try simp only [Act.put, List.getElem_toArray, List.getElem_cons_zero, List.getElem_cons_succ, List.setIfInBounds_toArray, List.set_cons_zero, List.set_cons_succ]
                      replace hz := hz.far c5 (by decide) (.int .i64 K0) (.int .i64 K1)
                      replace c3 := c3.off c5 (by decide) (.int .i64 K0) (.int .i64 K1)
                      replace c5 := c5.put K0 K1
                      generalize ((X59.setCell ⟨a5, 0, none⟩ (.int .i64 K0)).setCell ⟨a5, 1, none⟩ (.int .i64 K1)) = X60 at c3 c5 hz hY60 ⊢
                      refine wpAnyH_done (by kernel_rfl) ?_ _
                      try simp only [Act.put, List.getElem_toArray, List.getElem_cons_zero, List.getElem_cons_succ, List.setIfInBounds_toArray, List.set_cons_zero, List.set_cons_succ]
                      go_wp2
                      go_meet
                      exact ⟨a3, a5, rfl, rfl, c3, c5, hz, hY60, l3, l5⟩
        · go_simp
          refine hK.out _ _ (hY1.alloc hY1.size _) (fun hY61 => ?_)
          clear hK K
          try simp only [Act.put, List.getElem_toArray, List.getElem_cons_zero, List.getElem_cons_succ, List.setIfInBounds_toArray, List.set_cons_zero, List.set_cons_succ]
          replace hy := OwnY.alloc hy (.cells #[.int .i64 0, .int .i64 0] 24)
          have c3 := At2.new X1 0 0 24
          have l3 := hY1.size
          generalize X1.alloc (.cells #[.int .i64 0, .int .i64 0] 24) = X61 at c3 hY61 hy ⊢
          generalize X1.heap.size = a3 at c3 l3 ⊢
          refine wpAnyH_ready (rs := [2, 12]) (by kernel_rfl) (by simp) ?_
          refine cons7_2 rfl (fun K hK => ?_) (cons7_12 rfl (fun K hK => ?_) (AllReadyH.nil))
          · refine step_append_bytes rfl _ _ rfl F.heap.size _ [] rfl hy _ la rfl (HA0.out X61 hY61) (by have := HL.out; simp; omega) hY61.size ?_
            intro v62 X62 hy2 hb hg
            replace c3 := c3.grown hg (c3.ne_own (by decide) hy)
            clear hy hg
            refine hK.out _ _ (hY61.trans hb) (fun hY62 => ?_)
            clear hK K hb
            try simp only [Act.put, List.getElem_toArray, List.getElem_cons_zero, List.getElem_cons_succ, List.setIfInBounds_toArray, List.set_cons_zero, List.set_cons_succ]
            have hy := hy2
            clear hy2
            refine wpAnyH_ready (rs := [4, 12]) (by kernel_rfl) (by simp) ?_
            refine cons7_4 rfl (fun K hK => ?_) (cons7_12 rfl (fun K hK => ?_) (AllReadyH.nil))
            · refine step_append_bytes rfl _ _ rfl F.heap.size _ la rfl hy _ lb rfl (HB0.out X62 hY62) (by have := HL.out; simp; omega) hY62.size ?_
              intro v63 X63 hy2 hb hg
              replace c3 := c3.grown hg (c3.ne_own (by decide) hy)
              clear hy hg
              refine hK.out _ _ (hY62.trans hb) (fun hY63 => ?_)
              clear hK K hb
              try simp only [Act.put, List.getElem_toArray, List.getElem_cons_zero, List.getElem_cons_succ, List.setIfInBounds_toArray, List.set_cons_zero, List.set_cons_succ]
              have hy := hy2
              clear hy2
              refine wpAnyH_ready (rs := [6, 12]) (by kernel_rfl) (by simp) ?_
              refine cons7_6 rfl (fun K hK => ?_) (cons7_12 rfl (fun K hK => ?_) (AllReadyH.nil))
              · go_simp
                refine (HD.out _ _ hY63 hy).mono ?_
                rintro e X64 ⟨z, rfl, hz0, hb⟩
                clear hy
                replace c3 := c3.below hb c3.lt
                have hz : OwnR X64 F.heap.size z out3 := hz0.base hY63.size
                clear hz0
                refine hK.out _ _ (hY63.trans (hb.mono hY63.size)) (fun hY64 => ?_)
                clear hK K hb
                try simp only [Act.put, List.getElem_toArray, List.getElem_cons_zero, List.getElem_cons_succ, List.setIfInBounds_toArray, List.set_cons_zero, List.set_cons_succ]
                refine wpAnyH_take (i := 7) (v := ?v7_60) rfl (by kernel_rfl) (by kernel_rfl) (by kernel_rfl) (fun _ _ _ h => h) (Or.inl ⟨by kernel_rfl, ?h7_60⟩) hY64 ?r7_60
                case h7_60 => (rintro w' hb; go_simp; try (with_reducible rfl))
                try simp only [Act.put, List.getElem_toArray, List.getElem_cons_zero, List.getElem_cons_succ, List.setIfInBounds_toArray, List.set_cons_zero, List.set_cons_succ]
                refine wpAnyH_take (i := 8) (v := ?v8_61) rfl (by kernel_rfl) (by kernel_rfl) (by kernel_rfl) (fun _ _ _ h => h) (Or.inl ⟨by kernel_rfl, ?h8_61⟩) hY64 ?r8_61
                case h8_61 => (rintro w' hb; go_simp; try (with_reducible rfl))
                try simp only [Act.put, List.getElem_toArray, List.getElem_cons_zero, List.getElem_cons_succ, List.setIfInBounds_toArray, List.set_cons_zero, List.set_cons_succ]
                refine wpAnyH_take (i := 9) (v := ?v9_62) rfl (by kernel_rfl) (by kernel_rfl) (by kernel_rfl) (fun _ _ _ h => h) (Or.inl ⟨by kernel_rfl, ?h9_62⟩) hY64 ?r9_62
                case h9_62 => (rintro w' hb; go_simp; try (with_reducible rfl))
                try simp only [Act.put, List.getElem_toArray, List.getElem_cons_zero, List.getElem_cons_succ, List.setIfInBounds_toArray, List.set_cons_zero, List.set_cons_succ]
                refine wpAnyH_take (i := 10) (v := ?v10_63) rfl (by kernel_rfl) (by kernel_rfl) (by kernel_rfl) (fun _ _ _ h => h) (Or.inl ⟨by kernel_rfl, ?h10_63⟩) hY64 ?r10_63
                case h10_63 => (rintro w' hb; go_simp; try (with_reducible rfl))
                try simp only [Act.put, List.getElem_toArray, List.getElem_cons_zero, List.getElem_cons_succ, List.setIfInBounds_toArray, List.set_cons_zero, List.set_cons_succ]
                refine wpAnyH_ready (rs := [12]) (by kernel_rfl) (by simp) ?_
                refine cons7_12 rfl (fun K hK => ?_) (AllReadyH.nil)
                · go_simp
                  refine hK.out _ _ (hY64.alloc hY64.size _) (fun hY65 => ?_)
                  clear hK K
                  try simp only [Act.put, List.getElem_toArray, List.getElem_cons_zero, List.getElem_cons_succ, List.setIfInBounds_toArray, List.set_cons_zero, List.set_cons_succ]
                  replace hz := OwnR.alloc hz (.cells #[.int .i64 0, .int .i64 0] 29)
                  replace c3 := c3.alloc (.cells #[.int .i64 0, .int .i64 0] 29)
                  have c5 := At2.new X64 0 0 29
                  have l5 := hY64.size
                  generalize X64.alloc (.cells #[.int .i64 0, .int .i64 0] 29) = X65 at c5 hY65 hz c3 ⊢
                  generalize X64.heap.size = a5 at c5 l5 ⊢
                  refine wpAnyH_take (i := 13) (v := ?v13_64) rfl (by kernel_rfl) (by kernel_rfl) (by kernel_rfl) (fun _ _ _ h => h) (Or.inl ⟨by kernel_rfl, ?h13_64⟩) hY65 ?r13_64
                  case h13_64 => (rintro w' hb; go_simp; try (with_reducible rfl))
                  try simp only [Act.put, List.getElem_toArray, List.getElem_cons_zero, List.getElem_cons_succ, List.setIfInBounds_toArray, List.set_cons_zero, List.set_cons_succ]
                  refine wpAnyH_ready (rs := [14]) (by kernel_rfl) (by simp) ?_
                  refine cons7_14 rfl (fun K hK => ?_) (AllReadyH.nil)
                  · obtain ⟨k0, k1, kf0, kf1, kl⟩ := c3.cells
                    go_simp
                    refine hK.out _ _ ((hY65.setCell (p := ⟨a3, 0, none⟩) l3 _).setCell (p := ⟨a3, 1, none⟩) l3 _) (fun hY66 => ?_)
                    clear hK K k0 k1 kf0 kf1 kl
                    try simp only [Act.put, List.getElem_toArray, List.getElem_cons_zero, List.getElem_cons_succ, List.setIfInBounds_toArray, List.set_cons_zero, List.set_cons_succ]
                    replace hz := hz.far c3 (by decide) (.int .i64 J0) (.int .i64 J1)
                    replace c5 := c5.off c3 (by decide) (.int .i64 J0) (.int .i64 J1)
                    replace c3 := c3.put J0 J1
                    generalize ((X65.setCell ⟨a3, 0, none⟩ (.int .i64 J0)).setCell ⟨a3, 1, none⟩ (.int .i64 J1)) = X66 at c3 c5 hz hY66 ⊢
                    refine wpAnyH_ready (rs := [15]) (by kernel_rfl) (by simp) ?_
                    refine cons7_15 rfl (fun K hK => ?_) (AllReadyH.nil)
                    · obtain ⟨k0, k1, kf0, kf1, kl⟩ := c5.cells
                      go_simp
                      refine hK.out _ _ ((hY66.setCell (p := ⟨a5, 0, none⟩) l5 _).setCell (p := ⟨a5, 1, none⟩) l5 _) (fun hY67 => ?_)
                      clear hK K k0 k1 kf0 kf1 kl
                      try simp only [Act.put, List.getElem_toArray, List.getElem_cons_zero, List.getElem_cons_succ, List.setIfInBounds_toArray, List.set_cons_zero, List.set_cons_succ]
                      replace hz := hz.far c5 (by decide) (.int .i64 K0) (.int .i64 K1)
                      replace c3 := c3.off c5 (by decide) (.int .i64 K0) (.int .i64 K1)
                      replace c5 := c5.put K0 K1
                      generalize ((X66.setCell ⟨a5, 0, none⟩ (.int .i64 K0)).setCell ⟨a5, 1, none⟩ (.int .i64 K1)) = X67 at c3 c5 hz hY67 ⊢
                      refine wpAnyH_done (by kernel_rfl) ?_ _
                      try simp only [Act.put, List.getElem_toArray, List.getElem_cons_zero, List.getElem_cons_succ, List.setIfInBounds_toArray, List.set_cons_zero, List.set_cons_succ]
                      go_wp2
                      go_meet
                      exact ⟨a3, a5, rfl, rfl, c3, c5, hz, hY67, l3, l5⟩
              · go_simp
                refine hK.out _ _ (hY63.alloc hY63.size _) (fun hY68 => ?_)
                clear hK K
                try simp only [Act.put, List.getElem_toArray, List.getElem_cons_zero, List.getElem_cons_succ, List.setIfInBounds_toArray, List.set_cons_zero, List.set_cons_succ]
                replace hy := OwnY.alloc hy (.cells #[.int .i64 0, .int .i64 0] 29)
                replace c3 := c3.alloc (.cells #[.int .i64 0, .int .i64 0] 29)
                have c5 := At2.new X63 0 0 29
                have l5 := hY63.size
                generalize X63.alloc (.cells #[.int .i64 0, .int .i64 0] 29) = X68 at c5 hY68 hy c3 ⊢
                generalize X63.heap.size = a5 at c5 l5 ⊢
                refine wpAnyH_ready (rs := [6]) (by kernel_rfl) (by simp) ?_
                refine cons7_6 rfl (fun K hK => ?_) (AllReadyH.nil)
                · go_simp
                  refine (HD.out _ _ hY68 hy).mono ?_
                  rintro e X69 ⟨z, rfl, hz0, hb⟩
                  clear hy
                  replace c3 := c3.below hb c3.lt
                  replace c5 := c5.below hb c5.lt
                  have hz : OwnR X69 F.heap.size z out3 := hz0.base hY68.size
                  clear hz0
                  refine hK.out _ _ (hY68.trans (hb.mono hY68.size)) (fun hY69 => ?_)
                  clear hK K hb
                  try simp only [Act.put, List.getElem_toArray, List.getElem_cons_zero, List.getElem_cons_succ, List.setIfInBounds_toArray, List.set_cons_zero, List.set_cons_succ]
                  refine wpAnyH_take (i := 7) (v := ?v7_65) rfl (by kernel_rfl) (by kernel_rfl) (by kernel_rfl) (fun _ _ _ h => h) (Or.inl ⟨by kernel_rfl, ?h7_65⟩) hY69 ?r7_65
                  case h7_65 => (rintro w' hb; go_simp; try (with_reducible rfl))
                  try simp only [Act.put, List.getElem_toArray, List.getElem_cons_zero, List.getElem_cons_succ, List.setIfInBounds_toArray, List.set_cons_zero, List.set_cons_succ]
                  refine wpAnyH_take (i := 8) (v := ?v8_66) rfl (by kernel_rfl) (by kernel_rfl) (by kernel_rfl) (fun _ _ _ h => h) (Or.inl ⟨by kernel_rfl, ?h8_66⟩) hY69 ?r8_66
                  case h8_66 => (rintro w' hb; go_simp; try (with_reducible rfl))
                  try simp only [Act.put, List.getElem_toArray, List.getElem_cons_zero, List.getElem_cons_succ, List.setIfInBounds_toArray, List.set_cons_zero, List.set_cons_succ]
                  refine wpAnyH_take (i := 9) (v := ?v9_67) rfl (by kernel_rfl) (by kernel_rfl) (by kernel_rfl) (fun _ _ _ h => h) (Or.inl ⟨by kernel_rfl, ?h9_67⟩) hY69 ?r9_67
                  case h9_67 => (rintro w' hb; go_simp; try (with_reducible rfl))
                  try simp only [Act.put, List.getElem_toArray, List.getElem_cons_zero, List.getElem_cons_succ, List.setIfInBounds_toArray, List.set_cons_zero, List.set_cons_succ]
                  refine wpAnyH_take (i := 10) (v := ?v10_68) rfl (by kernel_rfl) (by kernel_rfl) (by kernel_rfl) (fun _ _ _ h => h) (Or.inl ⟨by kernel_rfl, ?h10_68⟩) hY69 ?r10_68
                  case h10_68 => (rintro w' hb; go_simp; try (with_reducible rfl))
                  try simp only [Act.put, List.getElem_toArray, List.getElem_cons_zero, List.getElem_cons_succ, List.setIfInBounds_toArray, List.set_cons_zero, List.set_cons_succ]
                  refine wpAnyH_take (i := 13) (v := ?v13_69) rfl (by kernel_rfl) (by kernel_rfl) (by kernel_rfl) (fun _ _ _ h => h) (Or.inl ⟨by kernel_rfl, ?h13_69⟩) hY69 ?r13_69
                  case h13_69 => (rintro w' hb; go_simp; try (with_reducible rfl))
                  try simp only [Act.put, List.getElem_toArray, List.getElem_cons_zero, List.getElem_cons_succ, List.setIfInBounds_toArray, List.set_cons_zero, List.set_cons_succ]
                  refine wpAnyH_ready (rs := [14]) (by kernel_rfl) (by simp) ?_
                  refine cons7_14 rfl (fun K hK => ?_) (AllReadyH.nil)
                  · obtain ⟨k0, k1, kf0, kf1, kl⟩ := c3.cells
                    go_simp
                    refine hK.out _ _ ((hY69.setCell (p := ⟨a3, 0, none⟩) l3 _).setCell (p := ⟨a3, 1, none⟩) l3 _) (fun hY70 => ?_)
                    clear hK K k0 k1 kf0 kf1 kl
                    try simp only [Act.put, List.getElem_toArray, List.getElem_cons_zero, List.getElem_cons_succ, List.setIfInBounds_toArray, List.set_cons_zero, List.set_cons_succ]
                    replace hz := hz.far c3 (by decide) (.int .i64 J0) (.int .i64 J1)
                    replace c5 := c5.off c3 (by decide) (.int .i64 J0) (.int .i64 J1)
                    replace c3 := c3.put J0 J1
                    generalize ((X69.setCell ⟨a3, 0, none⟩ (.int .i64 J0)).setCell ⟨a3, 1, none⟩ (.int .i64 J1)) = X70 at c3 c5 hz hY70 ⊢
                    refine wpAnyH_ready (rs := [15]) (by kernel_rfl) (by simp) ?_
                    refine cons7_15 rfl (fun K hK => ?_) (AllReadyH.nil)
                    · obtain ⟨k0, k1, kf0, kf1, kl⟩ := c5.cells
                      go_simp
                      refine hK.out _ _ ((hY70.setCell (p := ⟨a5, 0, none⟩) l5 _).setCell (p := ⟨a5, 1, none⟩) l5 _) (fun hY71 => ?_)
                      clear hK K k0 k1 kf0 kf1 kl
                      try simp only [Act.put, List.getElem_toArray, List.getElem_cons_zero, List.getElem_cons_succ, List.setIfInBounds_toArray, List.set_cons_zero, List.set_cons_succ]
                      replace hz := hz.far c5 (by decide) (.int .i64 K0) (.int .i64 K1)
                      replace c3 := c3.off c5 (by decide) (.int .i64 K0) (.int .i64 K1)
                      replace c5 := c5.put K0 K1
                      generalize ((X70.setCell ⟨a5, 0, none⟩ (.int .i64 K0)).setCell ⟨a5, 1, none⟩ (.int .i64 K1)) = X71 at c3 c5 hz hY71 ⊢
                      refine wpAnyH_done (by kernel_rfl) ?_ _
                      try simp only [Act.put, List.getElem_toArray, List.getElem_cons_zero, List.getElem_cons_succ, List.setIfInBounds_toArray, List.set_cons_zero, List.set_cons_succ]
                      go_wp2
                      go_meet
                      exact ⟨a3, a5, rfl, rfl, c3, c5, hz, hY71, l3, l5⟩
            · go_simp
              refine hK.out _ _ (hY62.alloc hY62.size _) (fun hY72 => ?_)
              clear hK K
              try simp only [Act.put, List.getElem_toArray, List.getElem_cons_zero, List.getElem_cons_succ, List.setIfInBounds_toArray, List.set_cons_zero, List.set_cons_succ]
              replace hy := OwnY.alloc hy (.cells #[.int .i64 0, .int .i64 0] 29)
              replace c3 := c3.alloc (.cells #[.int .i64 0, .int .i64 0] 29)
              have c5 := At2.new X62 0 0 29
              have l5 := hY62.size
              generalize X62.alloc (.cells #[.int .i64 0, .int .i64 0] 29) = X72 at c5 hY72 hy c3 ⊢
              generalize X62.heap.size = a5 at c5 l5 ⊢
              refine wpAnyH_ready (rs := [4]) (by kernel_rfl) (by simp) ?_
              refine cons7_4 rfl (fun K hK => ?_) (AllReadyH.nil)
              · refine step_append_bytes rfl _ _ rfl F.heap.size _ la rfl hy _ lb rfl (HB0.out X72 hY72) (by have := HL.out; simp; omega) hY72.size ?_
                intro v73 X73 hy2 hb hg
                replace c3 := c3.grown hg (c3.ne_own (by decide) hy)
                replace c5 := c5.grown hg (c5.ne_own (by decide) hy)
                clear hy hg
                refine hK.out _ _ (hY72.trans hb) (fun hY73 => ?_)
                clear hK K hb
                try simp only [Act.put, List.getElem_toArray, List.getElem_cons_zero, List.getElem_cons_succ, List.setIfInBounds_toArray, List.set_cons_zero, List.set_cons_succ]
                have hy := hy2
                clear hy2
                refine wpAnyH_ready (rs := [6]) (by kernel_rfl) (by simp) ?_
                refine cons7_6 rfl (fun K hK => ?_) (AllReadyH.nil)
                · go_simp
                  refine (HD.out _ _ hY73 hy).mono ?_
                  rintro e X74 ⟨z, rfl, hz0, hb⟩
                  clear hy
                  replace c3 := c3.below hb c3.lt
                  replace c5 := c5.below hb c5.lt
                  have hz : OwnR X74 F.heap.size z out3 := hz0.base hY73.size
                  clear hz0
                  refine hK.out _ _ (hY73.trans (hb.mono hY73.size)) (fun hY74 => ?_)
                  clear hK K hb
                  try simp only [Act.put, List.getElem_toArray, List.getElem_cons_zero, List.getElem_cons_succ, List.setIfInBounds_toArray, List.set_cons_zero, List.set_cons_succ]
                  refine wpAnyH_take (i := 7) (v := ?v7_70) rfl (by kernel_rfl) (by kernel_rfl) (by kernel_rfl) (fun _ _ _ h => h) (Or.inl ⟨by kernel_rfl, ?h7_70⟩) hY74 ?r7_70
                  case h7_70 => (rintro w' hb; go_simp; try (with_reducible rfl))
                  try simp only [Act.put, List.getElem_toArray, List.getElem_cons_zero, List.getElem_cons_succ, List.setIfInBounds_toArray, List.set_cons_zero, List.set_cons_succ]
                  refine wpAnyH_take (i := 8) (v := ?v8_71) rfl (by kernel_rfl) (by kernel_rfl) (by kernel_rfl) (fun _ _ _ h => h) (Or.inl ⟨by kernel_rfl, ?h8_71⟩) hY74 ?r8_71
                  case h8_71 => (rintro w' hb; go_simp; try (with_reducible rfl))
                  try simp only [Act.put, List.getElem_toArray, List.getElem_cons_zero, List.getElem_cons_succ, List.setIfInBounds_toArray, List.set_cons_zero, List.set_cons_succ]
                  refine wpAnyH_take (i := 9) (v := ?v9_72) rfl (by kernel_rfl) (by kernel_rfl) (by kernel_rfl) (fun _ _ _ h => h) (Or.inl ⟨by kernel_rfl, ?h9_72⟩) hY74 ?r9_72
                  case h9_72 => (rintro w' hb; go_simp; try (with_reducible rfl))
                  try simp only [Act.put, List.getElem_toArray, List.getElem_cons_zero, List.getElem_cons_succ, List.setIfInBounds_toArray, List.set_cons_zero, List.set_cons_succ]
                  refine wpAnyH_take (i := 10) (v := ?v10_73) rfl (by kernel_rfl) (by kernel_rfl) (by kernel_rfl) (fun _ _ _ h => h) (Or.inl ⟨by kernel_rfl, ?h10_73⟩) hY74 ?r10_73
                  case h10_73 => (rintro w' hb; go_simp; try (with_reducible rfl))
                  try simp only [Act.put, List.getElem_toArray, List.getElem_cons_zero, List.getElem_cons_succ, List.setIfInBounds_toArray, List.set_cons_zero, List.set_cons_succ]
                  refine wpAnyH_take (i := 13) (v := ?v13_74) rfl (by kernel_rfl) (by kernel_rfl) (by kernel_rfl) (fun _ _ _ h => h) (Or.inl ⟨by kernel_rfl, ?h13_74⟩) hY74 ?r13_74
                  case h13_74 => (rintro w' hb; go_simp; try (with_reducible rfl))
                  try simp only [Act.put, List.getElem_toArray, List.getElem_cons_zero, List.getElem_cons_succ, List.setIfInBounds_toArray, List.set_cons_zero, List.set_cons_succ]
                  refine wpAnyH_ready (rs := [14]) (by kernel_rfl) (by simp) ?_
                  refine cons7_14 rfl (fun K hK => ?_) (AllReadyH.nil)
                  · obtain ⟨k0, k1, kf0, kf1, kl⟩ := c3.cells
                    go_simp
                    refine hK.out _ _ ((hY74.setCell (p := ⟨a3, 0, none⟩) l3 _).setCell (p := ⟨a3, 1, none⟩) l3 _) (fun hY75 => ?_)
                    clear hK K k0 k1 kf0 kf1 kl
                    try simp only [Act.put, List.getElem_toArray, List.getElem_cons_zero, List.getElem_cons_succ, List.setIfInBounds_toArray, List.set_cons_zero, List.set_cons_succ]
                    replace hz := hz.far c3 (by decide) (.int .i64 J0) (.int .i64 J1)
                    replace c5 := c5.off c3 (by decide) (.int .i64 J0) (.int .i64 J1)
                    replace c3 := c3.put J0 J1
                    generalize ((X74.setCell ⟨a3, 0, none⟩ (.int .i64 J0)).setCell ⟨a3, 1, none⟩ (.int .i64 J1)) = X75 at c3 c5 hz hY75 ⊢
                    refine wpAnyH_ready (rs := [15]) (by kernel_rfl) (by simp) ?_
                    refine cons7_15 rfl (fun K hK => ?_) (AllReadyH.nil)
                    · obtain ⟨k0, k1, kf0, kf1, kl⟩ := c5.cells
                      go_simp
                      refine hK.out _ _ ((hY75.setCell (p := ⟨a5, 0, none⟩) l5 _).setCell (p := ⟨a5, 1, none⟩) l5 _) (fun hY76 => ?_)
                      clear hK K k0 k1 kf0 kf1 kl
                      try simp only [Act.put, List.getElem_toArray, List.getElem_cons_zero, List.getElem_cons_succ, List.setIfInBounds_toArray, List.set_cons_zero, List.set_cons_succ]
                      replace hz := hz.far c5 (by decide) (.int .i64 K0) (.int .i64 K1)
                      replace c3 := c3.off c5 (by decide) (.int .i64 K0) (.int .i64 K1)
                      replace c5 := c5.put K0 K1
                      generalize ((X75.setCell ⟨a5, 0, none⟩ (.int .i64 K0)).setCell ⟨a5, 1, none⟩ (.int .i64 K1)) = X76 at c3 c5 hz hY76 ⊢
                      refine wpAnyH_done (by kernel_rfl) ?_ _
                      try simp only [Act.put, List.getElem_toArray, List.getElem_cons_zero, List.getElem_cons_succ, List.setIfInBounds_toArray, List.set_cons_zero, List.set_cons_succ]
                      go_wp2
                      go_meet
                      exact ⟨a3, a5, rfl, rfl, c3, c5, hz, hY76, l3, l5⟩
          · go_simp
            refine hK.out _ _ (hY61.alloc hY61.size _) (fun hY77 => ?_)
            clear hK K
            try simp only [Act.put, List.getElem_toArray, List.getElem_cons_zero, List.getElem_cons_succ, List.setIfInBounds_toArray, List.set_cons_zero, List.set_cons_succ]
            replace hy := OwnY.alloc hy (.cells #[.int .i64 0, .int .i64 0] 29)
            replace c3 := c3.alloc (.cells #[.int .i64 0, .int .i64 0] 29)
            have c5 := At2.new X61 0 0 29
            have l5 := hY61.size
            generalize X61.alloc (.cells #[.int .i64 0, .int .i64 0] 29) = X77 at c5 hY77 hy c3 ⊢
            generalize X61.heap.size = a5 at c5 l5 ⊢
            refine wpAnyH_ready (rs := [2]) (by kernel_rfl) (by simp) ?_
            refine cons7_2 rfl (fun K hK => ?_) (AllReadyH.nil)
            · refine step_append_bytes rfl _ _ rfl F.heap.size _ [] rfl hy _ la rfl (HA0.out X77 hY77) (by have := HL.out; simp; omega) hY77.size ?_
              intro v78 X78 hy2 hb hg
              replace c3 := c3.grown hg (c3.ne_own (by decide) hy)
              replace c5 := c5.grown hg (c5.ne_own (by decide) hy)
              clear hy hg
              refine hK.out _ _ (hY77.trans hb) (fun hY78 => ?_)
              clear hK K hb
              try simp only [Act.put, List.getElem_toArray, List.getElem_cons_zero, List.getElem_cons_succ, List.setIfInBounds_toArray, List.set_cons_zero, List.set_cons_succ]
              have hy := hy2
              clear hy2
              refine wpAnyH_ready (rs := [4]) (by kernel_rfl) (by simp) ?_
              refine cons7_4 rfl (fun K hK => ?_) (AllReadyH.nil)
              · refine step_append_bytes rfl _ _ rfl F.heap.size _ la rfl hy _ lb rfl (HB0.out X78 hY78) (by have := HL.out; simp; omega) hY78.size ?_
                intro v79 X79 hy2 hb hg
                replace c3 := c3.grown hg (c3.ne_own (by decide) hy)
                replace c5 := c5.grown hg (c5.ne_own (by decide) hy)
                clear hy hg
                refine hK.out _ _ (hY78.trans hb) (fun hY79 => ?_)
                clear hK K hb
                try simp only [Act.put, List.getElem_toArray, List.getElem_cons_zero, List.getElem_cons_succ, List.setIfInBounds_toArray, List.set_cons_zero, List.set_cons_succ]
                have hy := hy2
                clear hy2
                refine wpAnyH_ready (rs := [6]) (by kernel_rfl) (by simp) ?_
                refine cons7_6 rfl (fun K hK => ?_) (AllReadyH.nil)
                · go_simp
                  refine (HD.out _ _ hY79 hy).mono ?_
                  rintro e X80 ⟨z, rfl, hz0, hb⟩
                  clear hy
                  replace c3 := c3.below hb c3.lt
                  replace c5 := c5.below hb c5.lt
                  have hz : OwnR X80 F.heap.size z out3 := hz0.base hY79.size
                  clear hz0
                  refine hK.out _ _ (hY79.trans (hb.mono hY79.size)) (fun hY80 => ?_)
                  clear hK K hb
                  try simp only [Act.put, List.getElem_toArray, List.getElem_cons_zero, List.getElem_cons_succ, List.setIfInBounds_toArray, List.set_cons_zero, List.set_cons_succ]
                  refine wpAnyH_take (i := 7) (v := ?v7_75) rfl (by kernel_rfl) (by kernel_rfl) (by kernel_rfl) (fun _ _ _ h => h) (Or.inl ⟨by kernel_rfl, ?h7_75⟩) hY80 ?r7_75
                  case h7_75 => (rintro w' hb; go_simp; try (with_reducible rfl))
                  try simp only [Act.put, List.getElem_toArray, List.getElem_cons_zero, List.getElem_cons_succ, List.setIfInBounds_toArray, List.set_cons_zero, List.set_cons_succ]
                  refine wpAnyH_take (i := 8) (v := ?v8_76) rfl (by kernel_rfl) (by kernel_rfl) (by kernel_rfl) (fun _ _ _ h => h) (Or.inl ⟨by kernel_rfl, ?h8_76⟩) hY80 ?r8_76
                  case h8_76 => (rintro w' hb; go_simp; try (with_reducible rfl))
                  try simp only [Act.put, List.getElem_toArray, List.getElem_cons_zero, List.getElem_cons_succ, List.setIfInBounds_toArray, List.set_cons_zero, List.set_cons_succ]
                  refine wpAnyH_take (i := 9) (v := ?v9_77) rfl (by kernel_rfl) (by kernel_rfl) (by kernel_rfl) (fun _ _ _ h => h) (Or.inl ⟨by kernel_rfl, ?h9_77⟩) hY80 ?r9_77
                  case h9_77 => (rintro w' hb; go_simp; try (with_reducible rfl))
                  try simp only [Act.put, List.getElem_toArray, List.getElem_cons_zero, List.getElem_cons_succ, List.setIfInBounds_toArray, List.set_cons_zero, List.set_cons_succ]
                  refine wpAnyH_take (i := 10) (v := ?v10_78) rfl (by kernel_rfl) (by kernel_rfl) (by kernel_rfl) (fun _ _ _ h => h) (Or.inl ⟨by kernel_rfl, ?h10_78⟩) hY80 ?r10_78
                  case h10_78 => (rintro w' hb; go_simp; try (with_reducible rfl))
                  try simp only [Act.put, List.getElem_toArray, List.getElem_cons_zero, List.getElem_cons_succ, List.setIfInBounds_toArray, List.set_cons_zero, List.set_cons_succ]
                  refine wpAnyH_take (i := 13) (v := ?v13_79) rfl (by kernel_rfl) (by kernel_rfl) (by kernel_rfl) (fun _ _ _ h => h) (Or.inl ⟨by kernel_rfl, ?h13_79⟩) hY80 ?r13_79
                  case h13_79 => (rintro w' hb; go_simp; try (with_reducible rfl))
                  try simp only [Act.put, List.getElem_toArray, List.getElem_cons_zero, List.getElem_cons_succ, List.setIfInBounds_toArray, List.set_cons_zero, List.set_cons_succ]
                  refine wpAnyH_ready (rs := [14]) (by kernel_rfl) (by simp) ?_
                  refine cons7_14 rfl (fun K hK => ?_) (AllReadyH.nil)
                  · obtain ⟨k0, k1, kf0, kf1, kl⟩ := c3.cells
                    go_simp
                    refine hK.out _ _ ((hY80.setCell (p := ⟨a3, 0, none⟩) l3 _).setCell (p := ⟨a3, 1, none⟩) l3 _) (fun hY81 => ?_)
                    clear hK K k0 k1 kf0 kf1 kl
                    try simp only [Act.put, List.getElem_toArray, List.getElem_cons_zero, List.getElem_cons_succ, List.setIfInBounds_toArray, List.set_cons_zero, List.set_cons_succ]
                    replace hz := hz.far c3 (by decide) (.int .i64 J0) (.int .i64 J1)
                    replace c5 := c5.off c3 (by decide) (.int .i64 J0) (.int .i64 J1)
                    replace c3 := c3.put J0 J1
                    generalize ((X80.setCell ⟨a3, 0, none⟩ (.int .i64 J0)).setCell ⟨a3, 1, none⟩ (.int .i64 J1)) = X81 at c3 c5 hz hY81 ⊢
                    refine wpAnyH_ready (rs := [15]) (by kernel_rfl) (by simp) ?_
                    refine cons7_15 rfl (fun K hK => ?_) (AllReadyH.nil)
                    · obtain ⟨k0, k1, kf0, kf1, kl⟩ := c5.cells
                      go_simp
                      refine hK.out _ _ ((hY81.setCell (p := ⟨a5, 0, none⟩) l5 _).setCell (p := ⟨a5, 1, none⟩) l5 _) (fun hY82 => ?_)
                      clear hK K k0 k1 kf0 kf1 kl
                      try simp only [Act.put, List.getElem_toArray, List.getElem_cons_zero, List.getElem_cons_succ, List.setIfInBounds_toArray, List.set_cons_zero, List.set_cons_succ]
                      replace hz := hz.far c5 (by decide) (.int .i64 K0) (.int .i64 K1)
                      replace c3 := c3.off c5 (by decide) (.int .i64 K0) (.int .i64 K1)
                      replace c5 := c5.put K0 K1
                      generalize ((X81.setCell ⟨a5, 0, none⟩ (.int .i64 K0)).setCell ⟨a5, 1, none⟩ (.int .i64 K1)) = X82 at c3 c5 hz hY82 ⊢
                      refine wpAnyH_done (by kernel_rfl) ?_ _
                      try simp only [Act.put, List.getElem_toArray, List.getElem_cons_zero, List.getElem_cons_succ, List.setIfInBounds_toArray, List.set_cons_zero, List.set_cons_succ]
                      go_wp2
                      go_meet
                      exact ⟨a3, a5, rfl, rfl, c3, c5, hz, hY82, l3, l5⟩
        · go_simp
          refine hK.out _ _ (hY1.alloc hY1.size _) (fun hY83 => ?_)
          clear hK K
          try simp only [Act.put, List.getElem_toArray, List.getElem_cons_zero, List.getElem_cons_succ, List.setIfInBounds_toArray, List.set_cons_zero, List.set_cons_succ]
          replace hy := OwnY.alloc hy (.cells #[.int .i64 0, .int .i64 0] 29)
          have c5 := At2.new X1 0 0 29
          have l5 := hY1.size
          generalize X1.alloc (.cells #[.int .i64 0, .int .i64 0] 29) = X83 at c5 hY83 hy ⊢
          generalize X1.heap.size = a5 at c5 l5 ⊢
          refine wpAnyH_ready (rs := [2, 11]) (by kernel_rfl) (by simp) ?_
          refine cons7_2 rfl (fun K hK => ?_) (cons7_11 rfl (fun K hK => ?_) (AllReadyH.nil))
          · refine step_append_bytes rfl _ _ rfl F.heap.size _ [] rfl hy _ la rfl (HA0.out X83 hY83) (by have := HL.out; simp; omega) hY83.size ?_
            intro v84 X84 hy2 hb hg
            replace c5 := c5.grown hg (c5.ne_own (by decide) hy)
            clear hy hg
            refine hK.out _ _ (hY83.trans hb) (fun hY84 => ?_)
            clear hK K hb
            try simp only [Act.put, List.getElem_toArray, List.getElem_cons_zero, List.getElem_cons_succ, List.setIfInBounds_toArray, List.set_cons_zero, List.set_cons_succ]
            have hy := hy2
            clear hy2
            refine wpAnyH_ready (rs := [4, 11]) (by kernel_rfl) (by simp) ?_
            refine cons7_4 rfl (fun K hK => ?_) (cons7_11 rfl (fun K hK => ?_) (AllReadyH.nil))
            · refine step_append_bytes rfl _ _ rfl F.heap.size _ la rfl hy _ lb rfl (HB0.out X84 hY84) (by have := HL.out; simp; omega) hY84.size ?_
              intro v85 X85 hy2 hb hg
              replace c5 := c5.grown hg (c5.ne_own (by decide) hy)
              clear hy hg
              refine hK.out _ _ (hY84.trans hb) (fun hY85 => ?_)
              clear hK K hb
              try simp only [Act.put, List.getElem_toArray, List.getElem_cons_zero, List.getElem_cons_succ, List.setIfInBounds_toArray, List.set_cons_zero, List.set_cons_succ]
              have hy := hy2
              clear hy2
              refine wpAnyH_ready (rs := [6, 11]) (by kernel_rfl) (by simp) ?_
              refine cons7_6 rfl (fun K hK => ?_) (cons7_11 rfl (fun K hK => ?_) (AllReadyH.nil))
              · go_simp
                refine (HD.out _ _ hY85 hy).mono ?_
                rintro e X86 ⟨z, rfl, hz0, hb⟩
                clear hy
                replace c5 := c5.below hb c5.lt
                have hz : OwnR X86 F.heap.size z out3 := hz0.base hY85.size
                clear hz0
                refine hK.out _ _ (hY85.trans (hb.mono hY85.size)) (fun hY86 => ?_)
                clear hK K hb
                try simp only [Act.put, List.getElem_toArray, List.getElem_cons_zero, List.getElem_cons_succ, List.setIfInBounds_toArray, List.set_cons_zero, List.set_cons_succ]
                refine wpAnyH_take (i := 7) (v := ?v7_80) rfl (by kernel_rfl) (by kernel_rfl) (by kernel_rfl) (fun _ _ _ h => h) (Or.inl ⟨by kernel_rfl, ?h7_80⟩) hY86 ?r7_80
                case h7_80 => (rintro w' hb; go_simp; try (with_reducible rfl))
                try simp only [Act.put, List.getElem_toArray, List.getElem_cons_zero, List.getElem_cons_succ, List.setIfInBounds_toArray, List.set_cons_zero, List.set_cons_succ]
                refine wpAnyH_take (i := 8) (v := ?v8_81) rfl (by kernel_rfl) (by kernel_rfl) (by kernel_rfl) (fun _ _ _ h => h) (Or.inl ⟨by kernel_rfl, ?h8_81⟩) hY86 ?r8_81
                case h8_81 => (rintro w' hb; go_simp; try (with_reducible rfl))
                try simp only [Act.put, List.getElem_toArray, List.getElem_cons_zero, List.getElem_cons_succ, List.setIfInBounds_toArray, List.set_cons_zero, List.set_cons_succ]
                refine wpAnyH_take (i := 9) (v := ?v9_82) rfl (by kernel_rfl) (by kernel_rfl) (by kernel_rfl) (fun _ _ _ h => h) (Or.inl ⟨by kernel_rfl, ?h9_82⟩) hY86 ?r9_82
                case h9_82 => (rintro w' hb; go_simp; try (with_reducible rfl))
                try simp only [Act.put, List.getElem_toArray, List.getElem_cons_zero, List.getElem_cons_succ, List.setIfInBounds_toArray, List.set_cons_zero, List.set_cons_succ]
                refine wpAnyH_take (i := 10) (v := ?v10_83) rfl (by kernel_rfl) (by kernel_rfl) (by kernel_rfl) (fun _ _ _ h => h) (Or.inl ⟨by kernel_rfl, ?h10_83⟩) hY86 ?r10_83
                case h10_83 => (rintro w' hb; go_simp; try (with_reducible rfl))
                try simp only [Act.put, List.getElem_toArray, List.getElem_cons_zero, List.getElem_cons_succ, List.setIfInBounds_toArray, List.set_cons_zero, List.set_cons_succ]
                refine wpAnyH_ready (rs := [11]) (by kernel_rfl) (by simp) ?_
                refine cons7_11 rfl (fun K hK => ?_) (AllReadyH.nil)
                · go_simp
                  refine hK.out _ _ (hY86.alloc hY86.size _) (fun hY87 => ?_)
                  clear hK K
                  try simp only [Act.put, List.getElem_toArray, List.getElem_cons_zero, List.getElem_cons_succ, List.setIfInBounds_toArray, List.set_cons_zero, List.set_cons_succ]
                  replace hz := OwnR.alloc hz (.cells #[.int .i64 0, .int .i64 0] 24)
                  replace c5 := c5.alloc (.cells #[.int .i64 0, .int .i64 0] 24)
                  have c3 := At2.new X86 0 0 24
                  have l3 := hY86.size
                  generalize X86.alloc (.cells #[.int .i64 0, .int .i64 0] 24) = X87 at c3 hY87 hz c5 ⊢
                  generalize X86.heap.size = a3 at c3 l3 ⊢
                  refine wpAnyH_take (i := 13) (v := ?v13_84) rfl (by kernel_rfl) (by kernel_rfl) (by kernel_rfl) (fun _ _ _ h => h) (Or.inl ⟨by kernel_rfl, ?h13_84⟩) hY87 ?r13_84
                  case h13_84 => (rintro w' hb; go_simp; try (with_reducible rfl))
                  try simp only [Act.put, List.getElem_toArray, List.getElem_cons_zero, List.getElem_cons_succ, List.setIfInBounds_toArray, List.set_cons_zero, List.set_cons_succ]
                  refine wpAnyH_ready (rs := [14]) (by kernel_rfl) (by simp) ?_
                  refine cons7_14 rfl (fun K hK => ?_) (AllReadyH.nil)
                  · obtain ⟨k0, k1, kf0, kf1, kl⟩ := c3.cells
                    go_simp
                    refine hK.out _ _ ((hY87.setCell (p := ⟨a3, 0, none⟩) l3 _).setCell (p := ⟨a3, 1, none⟩) l3 _) (fun hY88 => ?_)
                    clear hK K k0 k1 kf0 kf1 kl
                    try simp only [Act.put, List.getElem_toArray, List.getElem_cons_zero, List.getElem_cons_succ, List.setIfInBounds_toArray, List.set_cons_zero, List.set_cons_succ]
                    replace hz := hz.far c3 (by decide) (.int .i64 J0) (.int .i64 J1)
                    replace c5 := c5.off c3 (by decide) (.int .i64 J0) (.int .i64 J1)
                    replace c3 := c3.put J0 J1
                    generalize ((X87.setCell ⟨a3, 0, none⟩ (.int .i64 J0)).setCell ⟨a3, 1, none⟩ (.int .i64 J1)) = X88 at c3 c5 hz hY88 ⊢
                    refine wpAnyH_ready (rs := [15]) (by kernel_rfl) (by simp) ?_
                    refine cons7_15 rfl (fun K hK => ?_) (AllReadyH.nil)
                    · obtain ⟨k0, k1, kf0, kf1, kl⟩ := c5.cells
                      go_simp
                      refine hK.out _ _ ((hY88.setCell (p := ⟨a5, 0, none⟩) l5 _).setCell (p := ⟨a5, 1, none⟩) l5 _) (fun hY89 => ?_)
                      clear hK K k0 k1 kf0 kf1 kl
                      try simp only [Act.put, List.getElem_toArray, List.getElem_cons_zero, List.getElem_cons_succ, List.setIfInBounds_toArray, List.set_cons_zero, List.set_cons_succ]
                      replace hz := hz.far c5 (by decide) (.int .i64 K0) (.int .i64 K1)
                      replace c3 := c3.off c5 (by decide) (.int .i64 K0) (.int .i64 K1)
                      replace c5 := c5.put K0 K1
                      generalize ((X88.setCell ⟨a5, 0, none⟩ (.int .i64 K0)).setCell ⟨a5, 1, none⟩ (.int .i64 K1)) = X89 at c3 c5 hz hY89 ⊢
                      refine wpAnyH_done (by kernel_rfl) ?_ _
                      try simp only [Act.put, List.getElem_toArray, List.getElem_cons_zero, List.getElem_cons_succ, List.setIfInBounds_toArray, List.set_cons_zero, List.set_cons_succ]
                      go_wp2
                      go_meet
                      exact ⟨a3, a5, rfl, rfl, c3, c5, hz, hY89, l3, l5⟩
              · go_simp
                refine hK.out _ _ (hY85.alloc hY85.size _) (fun hY90 => ?_)
                clear hK K
                try simp only [Act.put, List.getElem_toArray, List.getElem_cons_zero, List.getElem_cons_succ, List.setIfInBounds_toArray, List.set_cons_zero, List.set_cons_succ]
                replace hy := OwnY.alloc hy (.cells #[.int .i64 0, .int .i64 0] 24)
                replace c5 := c5.alloc (.cells #[.int .i64 0, .int .i64 0] 24)
                have c3 := At2.new X85 0 0 24
                have l3 := hY85.size
                generalize X85.alloc (.cells #[.int .i64 0, .int .i64 0] 24) = X90 at c3 hY90 hy c5 ⊢
                generalize X85.heap.size = a3 at c3 l3 ⊢
                refine wpAnyH_ready (rs := [6]) (by kernel_rfl) (by simp) ?_
                refine cons7_6 rfl (fun K hK => ?_) (AllReadyH.nil)
                · go_simp
                  refine (HD.out _ _ hY90 hy).mono ?_
                  rintro e X91 ⟨z, rfl, hz0, hb⟩
                  clear hy
                  replace c3 := c3.below hb c3.lt
                  replace c5 := c5.below hb c5.lt
                  have hz : OwnR X91 F.heap.size z out3 := hz0.base hY90.size
                  clear hz0
                  refine hK.out _ _ (hY90.trans (hb.mono hY90.size)) (fun hY91 => ?_)
                  clear hK K hb
                  try simp only [Act.put, List.getElem_toArray, List.getElem_cons_zero, List.getElem_cons_succ, List.setIfInBounds_toArray, List.set_cons_zero, List.set_cons_succ]
                  refine wpAnyH_take (i := 7) (v := ?v7_85) rfl (by kernel_rfl) (by kernel_rfl) (by kernel_rfl) (fun _ _ _ h => h) (Or.inl ⟨by kernel_rfl, ?h7_85⟩) hY91 ?r7_85
                  case h7_85 => (rintro w' hb; go_simp; try (with_reducible rfl))
                  try simp only [Act.put, List.getElem_toArray, List.getElem_cons_zero, List.getElem_cons_succ, List.setIfInBounds_toArray, List.set_cons_zero, List.set_cons_succ]
                  refine wpAnyH_take (i := 8) (v := ?v8_86) rfl (by kernel_rfl) (by kernel_rfl) (by kernel_rfl) (fun _ _ _ h => h) (Or.inl ⟨by kernel_rfl, ?h8_86⟩) hY91 ?r8_86
                  case h8_86 => (rintro w' hb; go_simp; try (with_reducible rfl))
                  try simp only [Act.put, List.getElem_toArray, List.getElem_cons_zero, List.getElem_cons_succ, List.setIfInBounds_toArray, List.set_cons_zero, List.set_cons_succ]
                  refine wpAnyH_take (i := 9) (v := ?v9_87) rfl (by kernel_rfl) (by kernel_rfl) (by kernel_rfl) (fun _ _ _ h => h) (Or.inl ⟨by kernel_rfl, ?h9_87⟩) hY91 ?r9_87
                  case h9_87 => (rintro w' hb; go_simp; try (with_reducible rfl))
                  try simp only [Act.put, List.getElem_toArray, List.getElem_cons_zero, List.getElem_cons_succ, List.setIfInBounds_toArray, List.set_cons_zero, List.set_cons_succ]
                  refine wpAnyH_take (i := 10) (v := ?v10_88) rfl (by kernel_rfl) (by kernel_rfl) (by kernel_rfl) (fun _ _ _ h => h) (Or.inl ⟨by kernel_rfl, ?h10_88⟩) hY91 ?r10_88
                  case h10_88 => (rintro w' hb; go_simp; try (with_reducible rfl))
                  try simp only [Act.put, List.getElem_toArray, List.getElem_cons_zero, List.getElem_cons_succ, List.setIfInBounds_toArray, List.set_cons_zero, List.set_cons_succ]
                  refine wpAnyH_take (i := 13) (v := ?v13_89) rfl (by kernel_rfl) (by kernel_rfl) (by kernel_rfl) (fun _ _ _ h => h) (Or.inl ⟨by kernel_rfl, ?h13_89⟩) hY91 ?r13_89
                  case h13_89 => (rintro w' hb; go_simp; try (with_reducible rfl))
                  try simp only [Act.put, List.getElem_toArray, List.getElem_cons_zero, List.getElem_cons_succ, List.setIfInBounds_toArray, List.set_cons_zero, List.set_cons_succ]
                  refine wpAnyH_ready (rs := [14]) (by kernel_rfl) (by simp) ?_
                  refine cons7_14 rfl (fun K hK => ?_) (AllReadyH.nil)
                  · obtain ⟨k0, k1, kf0, kf1, kl⟩ := c3.cells
                    go_simp
                    refine hK.out _ _ ((hY91.setCell (p := ⟨a3, 0, none⟩) l3 _).setCell (p := ⟨a3, 1, none⟩) l3 _) (fun hY92 => ?_)
                    clear hK K k0 k1 kf0 kf1 kl
                    try simp only [Act.put, List.getElem_toArray, List.getElem_cons_zero, List.getElem_cons_succ, List.setIfInBounds_toArray, List.set_cons_zero, List.set_cons_succ]
                    replace hz := hz.far c3 (by decide) (.int .i64 J0) (.int .i64 J1)
                    replace c5 := c5.off c3 (by decide) (.int .i64 J0) (.int .i64 J1)
                    replace c3 := c3.put J0 J1
                    generalize ((X91.setCell ⟨a3, 0, none⟩ (.int .i64 J0)).setCell ⟨a3, 1, none⟩ (.int .i64 J1)) = X92 at c3 c5 hz hY92 ⊢
                    refine wpAnyH_ready (rs := [15]) (by kernel_rfl) (by simp) ?_
                    refine cons7_15 rfl (fun K hK => ?_) (AllReadyH.nil)
                    · obtain ⟨k0, k1, kf0, kf1, kl⟩ := c5.cells
                      go_simp
                      refine hK.out _ _ ((hY92.setCell (p := ⟨a5, 0, none⟩) l5 _).setCell (p := ⟨a5, 1, none⟩) l5 _) (fun hY93 => ?_)
                      clear hK K k0 k1 kf0 kf1 kl
                      try simp only [Act.put, List.getElem_toArray, List.getElem_cons_zero, List.getElem_cons_succ, List.setIfInBounds_toArray, List.set_cons_zero, List.set_cons_succ]
                      replace hz := hz.far c5 (by decide) (.int .i64 K0) (.int .i64 K1)
                      replace c3 := c3.off c5 (by decide) (.int .i64 K0) (.int .i64 K1)
                      replace c5 := c5.put K0 K1
                      generalize ((X92.setCell ⟨a5, 0, none⟩ (.int .i64 K0)).setCell ⟨a5, 1, none⟩ (.int .i64 K1)) = X93 at c3 c5 hz hY93 ⊢
                      refine wpAnyH_done (by kernel_rfl) ?_ _
                      try simp only [Act.put, List.getElem_toArray, List.getElem_cons_zero, List.getElem_cons_succ, List.setIfInBounds_toArray, List.set_cons_zero, List.set_cons_succ]
                      go_wp2
                      go_meet
                      exact ⟨a3, a5, rfl, rfl, c3, c5, hz, hY93, l3, l5⟩
            · go_simp
              refine hK.out _ _ (hY84.alloc hY84.size _) (fun hY94 => ?_)
              clear hK K
              try simp only [Act.put, List.getElem_toArray, List.getElem_cons_zero, List.getElem_cons_succ, List.setIfInBounds_toArray, List.set_cons_zero, List.set_cons_succ]
              replace hy := OwnY.alloc hy (.cells #[.int .i64 0, .int .i64 0] 24)
              replace c5 := c5.alloc (.cells #[.int .i64 0, .int .i64 0] 24)
              have c3 := At2.new X84 0 0 24
              have l3 := hY84.size
              generalize X84.alloc (.cells #[.int .i64 0, .int .i64 0] 24) = X94 at c3 hY94 hy c5 ⊢
              generalize X84.heap.size = a3 at c3 l3 ⊢
              refine wpAnyH_ready (rs := [4]) (by kernel_rfl) (by simp) ?_
              refine cons7_4 rfl (fun K hK => ?_) (AllReadyH.nil)
              · refine step_append_bytes rfl _ _ rfl F.heap.size _ la rfl hy _ lb rfl (HB0.out X94 hY94) (by have := HL.out; simp; omega) hY94.size ?_
                intro v95 X95 hy2 hb hg
                replace c3 := c3.grown hg (c3.ne_own (by decide) hy)
                replace c5 := c5.grown hg (c5.ne_own (by decide) hy)
                clear hy hg
                refine hK.out _ _ (hY94.trans hb) (fun hY95 => ?_)
                clear hK K hb
                try simp only [Act.put, List.getElem_toArray, List.getElem_cons_zero, List.getElem_cons_succ, List.setIfInBounds_toArray, List.set_cons_zero, List.set_cons_succ]
                have hy := hy2
                clear hy2
                refine wpAnyH_ready (rs := [6]) (by kernel_rfl) (by simp) ?_
                refine cons7_6 rfl (fun K hK => ?_) (AllReadyH.nil)
                · go_simp
                  refine (HD.out _ _ hY95 hy).mono ?_
                  rintro e X96 ⟨z, rfl, hz0, hb⟩
                  clear hy
                  replace c3 := c3.below hb c3.lt
                  replace c5 := c5.below hb c5.lt
                  have hz : OwnR X96 F.heap.size z out3 := hz0.base hY95.size
                  clear hz0
                  refine hK.out _ _ (hY95.trans (hb.mono hY95.size)) (fun hY96 => ?_)
                  clear hK K hb
                  try simp only [Act.put, List.getElem_toArray, List.getElem_cons_zero, List.getElem_cons_succ, List.setIfInBounds_toArray, List.set_cons_zero, List.set_cons_succ]
                  refine wpAnyH_take (i := 7) (v := ?v7_90) rfl (by kernel_rfl) (by kernel_rfl) (by kernel_rfl) (fun _ _ _ h => h) (Or.inl ⟨by kernel_rfl, ?h7_90⟩) hY96 ?r7_90
                  case h7_90 => (rintro w' hb; go_simp; try (with_reducible rfl))
                  try simp only [Act.put, List.getElem_toArray, List.getElem_cons_zero, List.getElem_cons_succ, List.setIfInBounds_toArray, List.set_cons_zero, List.set_cons_succ]
                  refine wpAnyH_take (i := 8) (v := ?v8_91) rfl (by kernel_rfl) (by kernel_rfl) (by kernel_rfl) (fun _ _ _ h => h) (Or.inl ⟨by kernel_rfl, ?h8_91⟩) hY96 ?r8_91
                  case h8_91 => (rintro w' hb; go_simp; try (with_reducible rfl))
                  try simp only [Act.put, List.getElem_toArray, List.getElem_cons_zero, List.getElem_cons_succ, List.setIfInBounds_toArray, List.set_cons_zero, List.set_cons_succ]
                  refine wpAnyH_take (i := 9) (v := ?v9_92) rfl (by kernel_rfl) (by kernel_rfl) (by kernel_rfl) (fun _ _ _ h => h) (Or.inl ⟨by kernel_rfl, ?h9_92⟩) hY96 ?r9_92
                  case h9_92 => (rintro w' hb; go_simp; try (with_reducible rfl))
                  try simp only [Act.put, List.getElem_toArray, List.getElem_cons_zero, List.getElem_cons_succ, List.setIfInBounds_toArray, List.set_cons_zero, List.set_cons_succ]
                  refine wpAnyH_take (i := 10) (v := ?v10_93) rfl (by kernel_rfl) (by kernel_rfl) (by kernel_rfl) (fun _ _ _ h => h) (Or.inl ⟨by kernel_rfl, ?h10_93⟩) hY96 ?r10_93
                  case h10_93 => (rintro w' hb; go_simp; try (with_reducible rfl))
                  try simp only [Act.put, List.getElem_toArray, List.getElem_cons_zero, List.getElem_cons_succ, List.setIfInBounds_toArray, List.set_cons_zero, List.set_cons_succ]
                  refine wpAnyH_take (i := 13) (v := ?v13_94) rfl (by kernel_rfl) (by kernel_rfl) (by kernel_rfl) (fun _ _ _ h => h) (Or.inl ⟨by kernel_rfl, ?h13_94⟩) hY96 ?r13_94
                  case h13_94 => (rintro w' hb; go_simp; try (with_reducible rfl))
                  try simp only [Act.put, List.getElem_toArray, List.getElem_cons_zero, List.getElem_cons_succ, List.setIfInBounds_toArray, List.set_cons_zero, List.set_cons_succ]
                  refine wpAnyH_ready (rs := [14]) (by kernel_rfl) (by simp) ?_
                  refine cons7_14 rfl (fun K hK => ?_) (AllReadyH.nil)
                  · obtain ⟨k0, k1, kf0, kf1, kl⟩ := c3.cells
                    go_simp
                    refine hK.out _ _ ((hY96.setCell (p := ⟨a3, 0, none⟩) l3 _).setCell (p := ⟨a3, 1, none⟩) l3 _) (fun hY97 => ?_)
                    clear hK K k0 k1 kf0 kf1 kl
                    try simp only [Act.put, List.getElem_toArray, List.getElem_cons_zero, List.getElem_cons_succ, List.setIfInBounds_toArray, List.set_cons_zero, List.set_cons_succ]
                    replace hz := hz.far c3 (by decide) (.int .i64 J0) (.int .i64 J1)
                    replace c5 := c5.off c3 (by decide) (.int .i64 J0) (.int .i64 J1)
                    replace c3 := c3.put J0 J1
                    generalize ((X96.setCell ⟨a3, 0, none⟩ (.int .i64 J0)).setCell ⟨a3, 1, none⟩ (.int .i64 J1)) = X97 at c3 c5 hz hY97 ⊢
                    refine wpAnyH_ready (rs := [15]) (by kernel_rfl) (by simp) ?_
                    refine cons7_15 rfl (fun K hK => ?_) (AllReadyH.nil)
                    · obtain ⟨k0, k1, kf0, kf1, kl⟩ := c5.cells
                      go_simp
                      refine hK.out _ _ ((hY97.setCell (p := ⟨a5, 0, none⟩) l5 _).setCell (p := ⟨a5, 1, none⟩) l5 _) (fun hY98 => ?_)
                      clear hK K k0 k1 kf0 kf1 kl
                      try simp only [Act.put, List.getElem_toArray, List.getElem_cons_zero, List.getElem_cons_succ, List.setIfInBounds_toArray, List.set_cons_zero, List.set_cons_succ]
                      replace hz := hz.far c5 (by decide) (.int .i64 K0) (.int .i64 K1)
                      replace c3 := c3.off c5 (by decide) (.int .i64 K0) (.int .i64 K1)
                      replace c5 := c5.put K0 K1
                      generalize ((X97.setCell ⟨a5, 0, none⟩ (.int .i64 K0)).setCell ⟨a5, 1, none⟩ (.int .i64 K1)) = X98 at c3 c5 hz hY98 ⊢
                      refine wpAnyH_done (by kernel_rfl) ?_ _
                      try simp only [Act.put, List.getElem_toArray, List.getElem_cons_zero, List.getElem_cons_succ, List.setIfInBounds_toArray, List.set_cons_zero, List.set_cons_succ]
                      go_wp2
                      go_meet
                      exact ⟨a3, a5, rfl, rfl, c3, c5, hz, hY98, l3, l5⟩
          · go_simp
            refine hK.out _ _ (hY83.alloc hY83.size _) (fun hY99 => ?_)
            clear hK K
            try simp only [Act.put, List.getElem_toArray, List.getElem_cons_zero, List.getElem_cons_succ, List.setIfInBounds_toArray, List.set_cons_zero, List.set_cons_succ]
            replace hy := OwnY.alloc hy (.cells #[.int .i64 0, .int .i64 0] 24)
            replace c5 := c5.alloc (.cells #[.int .i64 0, .int .i64 0] 24)
            have c3 := At2.new X83 0 0 24
            have l3 := hY83.size
            generalize X83.alloc (.cells #[.int .i64 0, .int .i64 0] 24) = X99 at c3 hY99 hy c5 ⊢
            generalize X83.heap.size = a3 at c3 l3 ⊢
            refine wpAnyH_ready (rs := [2]) (by kernel_rfl) (by simp) ?_
            refine cons7_2 rfl (fun K hK => ?_) (AllReadyH.nil)
            · refine step_append_bytes rfl _ _ rfl F.heap.size _ [] rfl hy _ la rfl (HA0.out X99 hY99) (by have := HL.out; simp; omega) hY99.size ?_
              intro v100 X100 hy2 hb hg
              replace c3 := c3.grown hg (c3.ne_own (by decide) hy)
              replace c5 := c5.grown hg (c5.ne_own (by decide) hy)
              clear hy hg
              refine hK.out _ _ (hY99.trans hb) (fun hY100 => ?_)
              clear hK K hb
              try simp only [Act.put, List.getElem_toArray, List.getElem_cons_zero, List.getElem_cons_succ, List.setIfInBounds_toArray, List.set_cons_zero, List.set_cons_succ]
              have hy := hy2
              clear hy2
              refine wpAnyH_ready (rs := [4]) (by kernel_rfl) (by simp) ?_
              refine cons7_4 rfl (fun K hK => ?_) (AllReadyH.nil)
              · refine step_append_bytes rfl _ _ rfl F.heap.size _ la rfl hy _ lb rfl (HB0.out X100 hY100) (by have := HL.out; simp; omega) hY100.size ?_
                intro v101 X101 hy2 hb hg
                replace c3 := c3.grown hg (c3.ne_own (by decide) hy)
                replace c5 := c5.grown hg (c5.ne_own (by decide) hy)
                clear hy hg
                refine hK.out _ _ (hY100.trans hb) (fun hY101 => ?_)
                clear hK K hb
                try simp only [Act.put, List.getElem_toArray, List.getElem_cons_zero, List.getElem_cons_succ, List.setIfInBounds_toArray, List.set_cons_zero, List.set_cons_succ]
                have hy := hy2
                clear hy2
                refine wpAnyH_ready (rs := [6]) (by kernel_rfl) (by simp) ?_
                refine cons7_6 rfl (fun K hK => ?_) (AllReadyH.nil)
                · go_simp
                  refine (HD.out _ _ hY101 hy).mono ?_
                  rintro e X102 ⟨z, rfl, hz0, hb⟩
                  clear hy
                  replace c3 := c3.below hb c3.lt
                  replace c5 := c5.below hb c5.lt
                  have hz : OwnR X102 F.heap.size z out3 := hz0.base hY101.size
                  clear hz0
                  refine hK.out _ _ (hY101.trans (hb.mono hY101.size)) (fun hY102 => ?_)
                  clear hK K hb
                  try simp only [Act.put, List.getElem_toArray, List.getElem_cons_zero, List.getElem_cons_succ, List.setIfInBounds_toArray, List.set_cons_zero, List.set_cons_succ]
                  refine wpAnyH_take (i := 7) (v := ?v7_95) rfl (by kernel_rfl) (by kernel_rfl) (by kernel_rfl) (fun _ _ _ h => h) (Or.inl ⟨by kernel_rfl, ?h7_95⟩) hY102 ?r7_95
                  case h7_95 => (rintro w' hb; go_simp; try (with_reducible rfl))
                  try simp only [Act.put, List.getElem_toArray, List.getElem_cons_zero, List.getElem_cons_succ, List.setIfInBounds_toArray, List.set_cons_zero, List.set_cons_succ]
                  refine wpAnyH_take (i := 8) (v := ?v8_96) rfl (by kernel_rfl) (by kernel_rfl) (by kernel_rfl) (fun _ _ _ h => h) (Or.inl ⟨by kernel_rfl, ?h8_96⟩) hY102 ?r8_96
                  case h8_96 => (rintro w' hb; go_simp; try (with_reducible rfl))
                  try simp only [Act.put, List.getElem_toArray, List.getElem_cons_zero, List.getElem_cons_succ, List.setIfInBounds_toArray, List.set_cons_zero, List.set_cons_succ]
                  refine wpAnyH_take (i := 9) (v := ?v9_97) rfl (by kernel_rfl) (by kernel_rfl) (by kernel_rfl) (fun _ _ _ h => h) (Or.inl ⟨by kernel_rfl, ?h9_97⟩) hY102 ?r9_97
                  case h9_97 => (rintro w' hb; go_simp; try (with_reducible rfl))
                  try simp only [Act.put, List.getElem_toArray, List.getElem_cons_zero, List.getElem_cons_succ, List.setIfInBounds_toArray, List.set_cons_zero, List.set_cons_succ]
                  refine wpAnyH_take (i := 10) (v := ?v10_98) rfl (by kernel_rfl) (by kernel_rfl) (by kernel_rfl) (fun _ _ _ h => h) (Or.inl ⟨by kernel_rfl, ?h10_98⟩) hY102 ?r10_98
                  case h10_98 => (rintro w' hb; go_simp; try (with_reducible rfl))
                  try simp only [Act.put, List.getElem_toArray, List.getElem_cons_zero, List.getElem_cons_succ, List.setIfInBounds_toArray, List.set_cons_zero, List.set_cons_succ]
                  refine wpAnyH_take (i := 13) (v := ?v13_99) rfl (by kernel_rfl) (by kernel_rfl) (by kernel_rfl) (fun _ _ _ h => h) (Or.inl ⟨by kernel_rfl, ?h13_99⟩) hY102 ?r13_99
                  case h13_99 => (rintro w' hb; go_simp; try (with_reducible rfl))
                  try simp only [Act.put, List.getElem_toArray, List.getElem_cons_zero, List.getElem_cons_succ, List.setIfInBounds_toArray, List.set_cons_zero, List.set_cons_succ]
                  refine wpAnyH_ready (rs := [14]) (by kernel_rfl) (by simp) ?_
                  refine cons7_14 rfl (fun K hK => ?_) (AllReadyH.nil)
                  · obtain ⟨k0, k1, kf0, kf1, kl⟩ := c3.cells
                    go_simp
                    refine hK.out _ _ ((hY102.setCell (p := ⟨a3, 0, none⟩) l3 _).setCell (p := ⟨a3, 1, none⟩) l3 _) (fun hY103 => ?_)
                    clear hK K k0 k1 kf0 kf1 kl
                    try simp only [Act.put, List.getElem_toArray, List.getElem_cons_zero, List.getElem_cons_succ, List.setIfInBounds_toArray, List.set_cons_zero, List.set_cons_succ]
                    replace hz := hz.far c3 (by decide) (.int .i64 J0) (.int .i64 J1)
                    replace c5 := c5.off c3 (by decide) (.int .i64 J0) (.int .i64 J1)
                    replace c3 := c3.put J0 J1
                    generalize ((X102.setCell ⟨a3, 0, none⟩ (.int .i64 J0)).setCell ⟨a3, 1, none⟩ (.int .i64 J1)) = X103 at c3 c5 hz hY103 ⊢
                    refine wpAnyH_ready (rs := [15]) (by kernel_rfl) (by simp) ?_
                    refine cons7_15 rfl (fun K hK => ?_) (AllReadyH.nil)
                    · obtain ⟨k0, k1, kf0, kf1, kl⟩ := c5.cells
                      go_simp
                      refine hK.out _ _ ((hY103.setCell (p := ⟨a5, 0, none⟩) l5 _).setCell (p := ⟨a5, 1, none⟩) l5 _) (fun hY104 => ?_)
                      clear hK K k0 k1 kf0 kf1 kl
                      try simp only [Act.put, List.getElem_toArray, List.getElem_cons_zero, List.getElem_cons_succ, List.setIfInBounds_toArray, List.set_cons_zero, List.set_cons_succ]
                      replace hz := hz.far c5 (by decide) (.int .i64 K0) (.int .i64 K1)
                      replace c3 := c3.off c5 (by decide) (.int .i64 K0) (.int .i64 K1)
                      replace c5 := c5.put K0 K1
                      generalize ((X103.setCell ⟨a5, 0, none⟩ (.int .i64 K0)).setCell ⟨a5, 1, none⟩ (.int .i64 K1)) = X104 at c3 c5 hz hY104 ⊢
                      refine wpAnyH_done (by kernel_rfl) ?_ _
                      try simp only [Act.put, List.getElem_toArray, List.getElem_cons_zero, List.getElem_cons_succ, List.setIfInBounds_toArray, List.set_cons_zero, List.set_cons_succ]
                      go_wp2
                      go_meet
                      exact ⟨a3, a5, rfl, rfl, c3, c5, hz, hY104, l3, l5⟩
      · go_simp
        refine hK.out _ _ (hHeld.alloc hHeld.size _) (fun hY105 => ?_)
        clear hK K
        try simp only [Act.put, List.getElem_toArray, List.getElem_cons_zero, List.getElem_cons_succ, List.setIfInBounds_toArray, List.set_cons_zero, List.set_cons_succ]
        have c3 := At2.new X0 0 0 24
        have l3 := hHeld.size
        generalize X0.alloc (.cells #[.int .i64 0, .int .i64 0] 24) = X105 at c3 hY105 ⊢
        generalize X0.heap.size = a3 at c3 l3 ⊢
        refine wpAnyH_ready (rs := [0, 12]) (by kernel_rfl) (by simp) ?_
        refine cons7_0 rfl (fun K hK => ?_) (cons7_12 rfl (fun K hK => ?_) (AllReadyH.nil))
        · go_simp
          refine hK.out _ _ (hY105.alloc hY105.size _) (fun hY106 => ?_)
          clear hK K
          try simp only [Act.put, List.getElem_toArray, List.getElem_cons_zero, List.getElem_cons_succ, List.setIfInBounds_toArray, List.set_cons_zero, List.set_cons_succ]
          have hy := OwnY.made X105 F.heap.size hY105.size
          replace c3 := c3.alloc (.cells #[] 5)
          generalize X105.alloc (.cells #[] 5) = X106 at hY106 hy c3 ⊢
          generalize X105.heap.size = yb at hy ⊢
          refine wpAnyH_ready (rs := [2, 12]) (by kernel_rfl) (by simp) ?_
          refine cons7_2 rfl (fun K hK => ?_) (cons7_12 rfl (fun K hK => ?_) (AllReadyH.nil))
          · refine step_append_bytes rfl _ _ rfl F.heap.size _ [] rfl hy _ la rfl (HA0.out X106 hY106) (by have := HL.out; simp; omega) hY106.size ?_
            intro v107 X107 hy2 hb hg
            replace c3 := c3.grown hg (c3.ne_own (by decide) hy)
            clear hy hg
            refine hK.out _ _ (hY106.trans hb) (fun hY107 => ?_)
            clear hK K hb
            try simp only [Act.put, List.getElem_toArray, List.getElem_cons_zero, List.getElem_cons_succ, List.setIfInBounds_toArray, List.set_cons_zero, List.set_cons_succ]
            have hy := hy2
            clear hy2
            refine wpAnyH_ready (rs := [4, 12]) (by kernel_rfl) (by simp) ?_
            refine cons7_4 rfl (fun K hK => ?_) (cons7_12 rfl (fun K hK => ?_) (AllReadyH.nil))
            · refine step_append_bytes rfl _ _ rfl F.heap.size _ la rfl hy _ lb rfl (HB0.out X107 hY107) (by have := HL.out; simp; omega) hY107.size ?_
              intro v108 X108 hy2 hb hg
              replace c3 := c3.grown hg (c3.ne_own (by decide) hy)
              clear hy hg
              refine hK.out _ _ (hY107.trans hb) (fun hY108 => ?_)
              clear hK K hb
              try simp only [Act.put, List.getElem_toArray, List.getElem_cons_zero, List.getElem_cons_succ, List.setIfInBounds_toArray, List.set_cons_zero, List.set_cons_succ]
              have hy := hy2
              clear hy2
              refine wpAnyH_ready (rs := [6, 12]) (by kernel_rfl) (by simp) ?_
              refine cons7_6 rfl (fun K hK => ?_) (cons7_12 rfl (fun K hK => ?_) (AllReadyH.nil))
              · go_simp
                refine (HD.out _ _ hY108 hy).mono ?_
                rintro e X109 ⟨z, rfl, hz0, hb⟩
                clear hy
                replace c3 := c3.below hb c3.lt
                have hz : OwnR X109 F.heap.size z out3 := hz0.base hY108.size
                clear hz0
                refine hK.out _ _ (hY108.trans (hb.mono hY108.size)) (fun hY109 => ?_)
                clear hK K hb
                try simp only [Act.put, List.getElem_toArray, List.getElem_cons_zero, List.getElem_cons_succ, List.setIfInBounds_toArray, List.set_cons_zero, List.set_cons_succ]
                refine wpAnyH_take (i := 7) (v := ?v7_100) rfl (by kernel_rfl) (by kernel_rfl) (by kernel_rfl) (fun _ _ _ h => h) (Or.inl ⟨by kernel_rfl, ?h7_100⟩) hY109 ?r7_100
                case h7_100 => (rintro w' hb; go_simp; try (with_reducible rfl))
                try simp only [Act.put, List.getElem_toArray, List.getElem_cons_zero, List.getElem_cons_succ, List.setIfInBounds_toArray, List.set_cons_zero, List.set_cons_succ]
                refine wpAnyH_take (i := 8) (v := ?v8_101) rfl (by kernel_rfl) (by kernel_rfl) (by kernel_rfl) (fun _ _ _ h => h) (Or.inl ⟨by kernel_rfl, ?h8_101⟩) hY109 ?r8_101
                case h8_101 => (rintro w' hb; go_simp; try (with_reducible rfl))
                try simp only [Act.put, List.getElem_toArray, List.getElem_cons_zero, List.getElem_cons_succ, List.setIfInBounds_toArray, List.set_cons_zero, List.set_cons_succ]
                refine wpAnyH_take (i := 9) (v := ?v9_102) rfl (by kernel_rfl) (by kernel_rfl) (by kernel_rfl) (fun _ _ _ h => h) (Or.inl ⟨by kernel_rfl, ?h9_102⟩) hY109 ?r9_102
                case h9_102 => (rintro w' hb; go_simp; try (with_reducible rfl))
                try simp only [Act.put, List.getElem_toArray, List.getElem_cons_zero, List.getElem_cons_succ, List.setIfInBounds_toArray, List.set_cons_zero, List.set_cons_succ]
                refine wpAnyH_take (i := 10) (v := ?v10_103) rfl (by kernel_rfl) (by kernel_rfl) (by kernel_rfl) (fun _ _ _ h => h) (Or.inl ⟨by kernel_rfl, ?h10_103⟩) hY109 ?r10_103
                case h10_103 => (rintro w' hb; go_simp; try (with_reducible rfl))
                try simp only [Act.put, List.getElem_toArray, List.getElem_cons_zero, List.getElem_cons_succ, List.setIfInBounds_toArray, List.set_cons_zero, List.set_cons_succ]
                refine wpAnyH_ready (rs := [12]) (by kernel_rfl) (by simp) ?_
                refine cons7_12 rfl (fun K hK => ?_) (AllReadyH.nil)
                · go_simp
                  refine hK.out _ _ (hY109.alloc hY109.size _) (fun hY110 => ?_)
                  clear hK K
                  try simp only [Act.put, List.getElem_toArray, List.getElem_cons_zero, List.getElem_cons_succ, List.setIfInBounds_toArray, List.set_cons_zero, List.set_cons_succ]
                  replace hz := OwnR.alloc hz (.cells #[.int .i64 0, .int .i64 0] 29)
                  replace c3 := c3.alloc (.cells #[.int .i64 0, .int .i64 0] 29)
                  have c5 := At2.new X109 0 0 29
                  have l5 := hY109.size
                  generalize X109.alloc (.cells #[.int .i64 0, .int .i64 0] 29) = X110 at c5 hY110 hz c3 ⊢
                  generalize X109.heap.size = a5 at c5 l5 ⊢
                  refine wpAnyH_take (i := 13) (v := ?v13_104) rfl (by kernel_rfl) (by kernel_rfl) (by kernel_rfl) (fun _ _ _ h => h) (Or.inl ⟨by kernel_rfl, ?h13_104⟩) hY110 ?r13_104
                  case h13_104 => (rintro w' hb; go_simp; try (with_reducible rfl))
                  try simp only [Act.put, List.getElem_toArray, List.getElem_cons_zero, List.getElem_cons_succ, List.setIfInBounds_toArray, List.set_cons_zero, List.set_cons_succ]
                  refine wpAnyH_ready (rs := [14]) (by kernel_rfl) (by simp) ?_
                  refine cons7_14 rfl (fun K hK => ?_) (AllReadyH.nil)
                  · obtain ⟨k0, k1, kf0, kf1, kl⟩ := c3.cells
                    go_simp
                    refine hK.out _ _ ((hY110.setCell (p := ⟨a3, 0, none⟩) l3 _).setCell (p := ⟨a3, 1, none⟩) l3 _) (fun hY111 => ?_)
                    clear hK K k0 k1 kf0 kf1 kl
                    try simp only [Act.put, List.getElem_toArray, List.getElem_cons_zero, List.getElem_cons_succ, List.setIfInBounds_toArray, List.set_cons_zero, List.set_cons_succ]
                    replace hz := hz.far c3 (by decide) (.int .i64 J0) (.int .i64 J1)
                    replace c5 := c5.off c3 (by decide) (.int .i64 J0) (.int .i64 J1)
                    replace c3 := c3.put J0 J1
                    generalize ((X110.setCell ⟨a3, 0, none⟩ (.int .i64 J0)).setCell ⟨a3, 1, none⟩ (.int .i64 J1)) = X111 at c3 c5 hz hY111 ⊢
                    refine wpAnyH_ready (rs := [15]) (by kernel_rfl) (by simp) ?_
                    refine cons7_15 rfl (fun K hK => ?_) (AllReadyH.nil)
                    · obtain ⟨k0, k1, kf0, kf1, kl⟩ := c5.cells
                      go_simp
                      refine hK.out _ _ ((hY111.setCell (p := ⟨a5, 0, none⟩) l5 _).setCell (p := ⟨a5, 1, none⟩) l5 _) (fun hY112 => ?_)
                      clear hK K k0 k1 kf0 kf1 kl
                      try simp only [Act.put, List.getElem_toArray, List.getElem_cons_zero, List.getElem_cons_succ, List.setIfInBounds_toArray, List.set_cons_zero, List.set_cons_succ]
                      replace hz := hz.far c5 (by decide) (.int .i64 K0) (.int .i64 K1)
                      replace c3 := c3.off c5 (by decide) (.int .i64 K0) (.int .i64 K1)
                      replace c5 := c5.put K0 K1
                      generalize ((X111.setCell ⟨a5, 0, none⟩ (.int .i64 K0)).setCell ⟨a5, 1, none⟩ (.int .i64 K1)) = X112 at c3 c5 hz hY112 ⊢
                      refine wpAnyH_done (by kernel_rfl) ?_ _
                      try simp only [Act.put, List.getElem_toArray, List.getElem_cons_zero, List.getElem_cons_succ, List.setIfInBounds_toArray, List.set_cons_zero, List.set_cons_succ]
                      go_wp2
                      go_meet
                      exact ⟨a3, a5, rfl, rfl, c3, c5, hz, hY112, l3, l5⟩
              · go_simp
                refine hK.out _ _ (hY108.alloc hY108.size _) (fun hY113 => ?_)
                clear hK K
                try simp only [Act.put, List.getElem_toArray, List.getElem_cons_zero, List.getElem_cons_succ, List.setIfInBounds_toArray, List.set_cons_zero, List.set_cons_succ]
                replace hy := OwnY.alloc hy (.cells #[.int .i64 0, .int .i64 0] 29)
                replace c3 := c3.alloc (.cells #[.int .i64 0, .int .i64 0] 29)
                have c5 := At2.new X108 0 0 29
                have l5 := hY108.size
                generalize X108.alloc (.cells #[.int .i64 0, .int .i64 0] 29) = X113 at c5 hY113 hy c3 ⊢
                generalize X108.heap.size = a5 at c5 l5 ⊢
                refine wpAnyH_ready (rs := [6]) (by kernel_rfl) (by simp) ?_
                refine cons7_6 rfl (fun K hK => ?_) (AllReadyH.nil)
                · go_simp
                  refine (HD.out _ _ hY113 hy).mono ?_
                  rintro e X114 ⟨z, rfl, hz0, hb⟩
                  clear hy
                  replace c3 := c3.below hb c3.lt
                  replace c5 := c5.below hb c5.lt
                  have hz : OwnR X114 F.heap.size z out3 := hz0.base hY113.size
                  clear hz0
                  refine hK.out _ _ (hY113.trans (hb.mono hY113.size)) (fun hY114 => ?_)
                  clear hK K hb
                  try simp only [Act.put, List.getElem_toArray, List.getElem_cons_zero, List.getElem_cons_succ, List.setIfInBounds_toArray, List.set_cons_zero, List.set_cons_succ]
                  refine wpAnyH_take (i := 7) (v := ?v7_105) rfl (by kernel_rfl) (by kernel_rfl) (by kernel_rfl) (fun _ _ _ h => h) (Or.inl ⟨by kernel_rfl, ?h7_105⟩) hY114 ?r7_105
                  case h7_105 => (rintro w' hb; go_simp; try (with_reducible rfl))
                  try simp only [Act.put, List.getElem_toArray, List.getElem_cons_zero, List.getElem_cons_succ, List.setIfInBounds_toArray, List.set_cons_zero, List.set_cons_succ]
                  refine wpAnyH_take (i := 8) (v := ?v8_106) rfl (by kernel_rfl) (by kernel_rfl) (by kernel_rfl) (fun _ _ _ h => h) (Or.inl ⟨by kernel_rfl, ?h8_106⟩) hY114 ?r8_106
                  case h8_106 => (rintro w' hb; go_simp; try (with_reducible rfl))
                  try simp only [Act.put, List.getElem_toArray, List.getElem_cons_zero, List.getElem_cons_succ, List.setIfInBounds_toArray, List.set_cons_zero, List.set_cons_succ]
                  refine wpAnyH_take (i := 9) (v := ?v9_107) rfl (by kernel_rfl) (by kernel_rfl) (by kernel_rfl) (fun _ _ _ h => h) (Or.inl ⟨by kernel_rfl, ?h9_107⟩) hY114 ?r9_107
                  case h9_107 => (rintro w' hb; go_simp; try (with_reducible rfl))
                  try simp only [Act.put, List.getElem_toArray, List.getElem_cons_zero, List.getElem_cons_succ, List.setIfInBounds_toArray, List.set_cons_zero, List.set_cons_succ]
                  refine wpAnyH_take (i := 10) (v := ?v10_108) rfl (by kernel_rfl) (by kernel_rfl) (by kernel_rfl) (fun _ _ _ h => h) (Or.inl ⟨by kernel_rfl, ?h10_108⟩) hY114 ?r10_108
                  case h10_108 => (rintro w' hb; go_simp; try (with_reducible rfl))
                  try simp only [Act.put, List.getElem_toArray, List.getElem_cons_zero, List.getElem_cons_succ, List.setIfInBounds_toArray, List.set_cons_zero, List.set_cons_succ]
                  refine wpAnyH_take (i := 13) (v := ?v13_109) rfl (by kernel_rfl) (by kernel_rfl) (by kernel_rfl) (fun _ _ _ h => h) (Or.inl ⟨by kernel_rfl, ?h13_109⟩) hY114 ?r13_109
                  case h13_109 => (rintro w' hb; go_simp; try (with_reducible rfl))
                  try simp only [Act.put, List.getElem_toArray, List.getElem_cons_zero, List.getElem_cons_succ, List.setIfInBounds_toArray, List.set_cons_zero, List.set_cons_succ]
                  refine wpAnyH_ready (rs := [14]) (by kernel_rfl) (by simp) ?_
                  refine cons7_14 rfl (fun K hK => ?_) (AllReadyH.nil)
                  · obtain ⟨k0, k1, kf0, kf1, kl⟩ := c3.cells
                    go_simp
                    refine hK.out _ _ ((hY114.setCell (p := ⟨a3, 0, none⟩) l3 _).setCell (p := ⟨a3, 1, none⟩) l3 _) (fun hY115 => ?_)
                    clear hK K k0 k1 kf0 kf1 kl
                    try simp only [Act.put, List.getElem_toArray, List.getElem_cons_zero, List.getElem_cons_succ, List.setIfInBounds_toArray, List.set_cons_zero, List.set_cons_succ]
                    replace hz := hz.far c3 (by decide) (.int .i64 J0) (.int .i64 J1)
                    replace c5 := c5.off c3 (by decide) (.int .i64 J0) (.int .i64 J1)
                    replace c3 := c3.put J0 J1
                    generalize ((X114.setCell ⟨a3, 0, none⟩ (.int .i64 J0)).setCell ⟨a3, 1, none⟩ (.int .i64 J1)) = X115 at c3 c5 hz hY115 ⊢
                    refine wpAnyH_ready (rs := [15]) (by kernel_rfl) (by simp) ?_
                    refine cons7_15 rfl (fun K hK => ?_) (AllReadyH.nil)
                    · obtain ⟨k0, k1, kf0, kf1, kl⟩ := c5.cells
                      go_simp
                      refine hK.out _ _ ((hY115.setCell (p := ⟨a5, 0, none⟩) l5 _).setCell (p := ⟨a5, 1, none⟩) l5 _) (fun hY116 => ?_)
                      clear hK K k0 k1 kf0 kf1 kl
                      try simp only [Act.put, List.getElem_toArray, List.getElem_cons_zero, List.getElem_cons_succ, List.setIfInBounds_toArray, List.set_cons_zero, List.set_cons_succ]
                      replace hz := hz.far c5 (by decide) (.int .i64 K0) (.int .i64 K1)
                      replace c3 := c3.off c5 (by decide) (.int .i64 K0) (.int .i64 K1)
                      replace c5 := c5.put K0 K1
                      generalize ((X115.setCell ⟨a5, 0, none⟩ (.int .i64 K0)).setCell ⟨a5, 1, none⟩ (.int .i64 K1)) = X116 at c3 c5 hz hY116 ⊢
                      refine wpAnyH_done (by kernel_rfl) ?_ _
                      try simp only [Act.put, List.getElem_toArray, List.getElem_cons_zero, List.getElem_cons_succ, List.setIfInBounds_toArray, List.set_cons_zero, List.set_cons_succ]
                      go_wp2
                      go_meet
                      exact ⟨a3, a5, rfl, rfl, c3, c5, hz, hY116, l3, l5⟩
            · go_simp
              refine hK.out _ _ (hY107.alloc hY107.size _) (fun hY117 => ?_)
              clear hK K
              try simp only [Act.put, List.getElem_toArray, List.getElem_cons_zero, List.getElem_cons_succ, List.setIfInBounds_toArray, List.set_cons_zero, List.set_cons_succ]
              replace hy := OwnY.alloc hy (.cells #[.int .i64 0, .int .i64 0] 29)
              replace c3 := c3.alloc (.cells #[.int .i64 0, .int .i64 0] 29)
              have c5 := At2.new X107 0 0 29
              have l5 := hY107.size
              generalize X107.alloc (.cells #[.int .i64 0, .int .i64 0] 29) = X117 at c5 hY117 hy c3 ⊢
              generalize X107.heap.size = a5 at c5 l5 ⊢
              refine wpAnyH_ready (rs := [4]) (by kernel_rfl) (by simp) ?_
              refine cons7_4 rfl (fun K hK => ?_) (AllReadyH.nil)
              · refine step_append_bytes rfl _ _ rfl F.heap.size _ la rfl hy _ lb rfl (HB0.out X117 hY117) (by have := HL.out; simp; omega) hY117.size ?_
                intro v118 X118 hy2 hb hg
                replace c3 := c3.grown hg (c3.ne_own (by decide) hy)
                replace c5 := c5.grown hg (c5.ne_own (by decide) hy)
                clear hy hg
                refine hK.out _ _ (hY117.trans hb) (fun hY118 => ?_)
                clear hK K hb
                try simp only [Act.put, List.getElem_toArray, List.getElem_cons_zero, List.getElem_cons_succ, List.setIfInBounds_toArray, List.set_cons_zero, List.set_cons_succ]
                have hy := hy2
                clear hy2
                refine wpAnyH_ready (rs := [6]) (by kernel_rfl) (by simp) ?_
                refine cons7_6 rfl (fun K hK => ?_) (AllReadyH.nil)
                · go_simp
                  refine (HD.out _ _ hY118 hy).mono ?_
                  rintro e X119 ⟨z, rfl, hz0, hb⟩
                  clear hy
                  replace c3 := c3.below hb c3.lt
                  replace c5 := c5.below hb c5.lt
                  have hz : OwnR X119 F.heap.size z out3 := hz0.base hY118.size
                  clear hz0
                  refine hK.out _ _ (hY118.trans (hb.mono hY118.size)) (fun hY119 => ?_)
                  clear hK K hb
                  try simp only [Act.put, List.getElem_toArray, List.getElem_cons_zero, List.getElem_cons_succ, List.setIfInBounds_toArray, List.set_cons_zero, List.set_cons_succ]
                  refine wpAnyH_take (i := 7) (v := ?v7_110) rfl (by kernel_rfl) (by kernel_rfl) (by kernel_rfl) (fun _ _ _ h => h) (Or.inl ⟨by kernel_rfl, ?h7_110⟩) hY119 ?r7_110
                  case h7_110 => (rintro w' hb; go_simp; try (with_reducible rfl))
                  try simp only [Act.put, List.getElem_toArray, List.getElem_cons_zero, List.getElem_cons_succ, List.setIfInBounds_toArray, List.set_cons_zero, List.set_cons_succ]
                  refine wpAnyH_take (i := 8) (v := ?v8_111) rfl (by kernel_rfl) (by kernel_rfl) (by kernel_rfl) (fun _ _ _ h => h) (Or.inl ⟨by kernel_rfl, ?h8_111⟩) hY119 ?r8_111
                  case h8_111 => (rintro w' hb; go_simp; try (with_reducible rfl))
                  try simp only [Act.put, List.getElem_toArray, List.getElem_cons_zero, List.getElem_cons_succ, List.setIfInBounds_toArray, List.set_cons_zero, List.set_cons_succ]
                  refine wpAnyH_take (i := 9) (v := ?v9_112) rfl (by kernel_rfl) (by kernel_rfl) (by kernel_rfl) (fun _ _ _ h => h) (Or.inl ⟨by kernel_rfl, ?h9_112⟩) hY119 ?r9_112
                  case h9_112 => (rintro w' hb; go_simp; try (with_reducible rfl))
                  try simp only [Act.put, List.getElem_toArray, List.getElem_cons_zero, List.getElem_cons_succ, List.setIfInBounds_toArray, List.set_cons_zero, List.set_cons_succ]
                  refine wpAnyH_take (i := 10) (v := ?v10_113) rfl (by kernel_rfl) (by kernel_rfl) (by kernel_rfl) (fun _ _ _ h => h) (Or.inl ⟨by kernel_rfl, ?h10_113⟩) hY119 ?r10_113
                  case h10_113 => (rintro w' hb; go_simp; try (with_reducible rfl))
                  try simp only [Act.put, List.getElem_toArray, List.getElem_cons_zero, List.getElem_cons_succ, List.setIfInBounds_toArray, List.set_cons_zero, List.set_cons_succ]
                  refine wpAnyH_take (i := 13) (v := ?v13_114) rfl (by kernel_rfl) (by kernel_rfl) (by kernel_rfl) (fun _ _ _ h => h) (Or.inl ⟨by kernel_rfl, ?h13_114⟩) hY119 ?r13_114
                  case h13_114 => (rintro w' hb; go_simp; try (with_reducible rfl))
                  try simp only [Act.put, List.getElem_toArray, List.getElem_cons_zero, List.getElem_cons_succ, List.setIfInBounds_toArray, List.set_cons_zero, List.set_cons_succ]
                  refine wpAnyH_ready (rs := [14]) (by kernel_rfl) (by simp) ?_
                  refine cons7_14 rfl (fun K hK => ?_) (AllReadyH.nil)
                  · obtain ⟨k0, k1, kf0, kf1, kl⟩ := c3.cells
                    go_simp
                    refine hK.out _ _ ((hY119.setCell (p := ⟨a3, 0, none⟩) l3 _).setCell (p := ⟨a3, 1, none⟩) l3 _) (fun hY120 => ?_)
                    clear hK K k0 k1 kf0 kf1 kl
                    try simp only [Act.put, List.getElem_toArray, List.getElem_cons_zero, List.getElem_cons_succ, List.setIfInBounds_toArray, List.set_cons_zero, List.set_cons_succ]
                    replace hz := hz.far c3 (by decide) (.int .i64 J0) (.int .i64 J1)
                    replace c5 := c5.off c3 (by decide) (.int .i64 J0) (.int .i64 J1)
                    replace c3 := c3.put J0 J1
                    generalize ((X119.setCell ⟨a3, 0, none⟩ (.int .i64 J0)).setCell ⟨a3, 1, none⟩ (.int .i64 J1)) = X120 at c3 c5 hz hY120 ⊢
                    refine wpAnyH_ready (rs := [15]) (by kernel_rfl) (by simp) ?_
                    refine cons7_15 rfl (fun K hK => ?_) (AllReadyH.nil)
                    · obtain ⟨k0, k1, kf0, kf1, kl⟩ := c5.cells
                      go_simp
                      refine hK.out _ _ ((hY120.setCell (p := ⟨a5, 0, none⟩) l5 _).setCell (p := ⟨a5, 1, none⟩) l5 _) (fun hY121 => ?_)
                      clear hK K k0 k1 kf0 kf1 kl
                      try simp only [Act.put, List.getElem_toArray, List.getElem_cons_zero, List.getElem_cons_succ, List.setIfInBounds_toArray, List.set_cons_zero, List.set_cons_succ]
                      replace hz := hz.far c5 (by decide) (.int .i64 K0) (.int .i64 K1)
                      replace c3 := c3.off c5 (by decide) (.int .i64 K0) (.int .i64 K1)
                      replace c5 := c5.put K0 K1
                      generalize ((X120.setCell ⟨a5, 0, none⟩ (.int .i64 K0)).setCell ⟨a5, 1, none⟩ (.int .i64 K1)) = X121 at c3 c5 hz hY121 ⊢
                      refine wpAnyH_done (by kernel_rfl) ?_ _
                      try simp only [Act.put, List.getElem_toArray, List.getElem_cons_zero, List.getElem_cons_succ, List.setIfInBounds_toArray, List.set_cons_zero, List.set_cons_succ]
                      go_wp2
                      go_meet
                      exact ⟨a3, a5, rfl, rfl, c3, c5, hz, hY121, l3, l5⟩
          · go_simp
            refine hK.out _ _ (hY106.alloc hY106.size _) (fun hY122 => ?_)
            clear hK K
            try simp only [Act.put, List.getElem_toArray, List.getElem_cons_zero, List.getElem_cons_succ, List.setIfInBounds_toArray, List.set_cons_zero, List.set_cons_succ]
            replace hy := OwnY.alloc hy (.cells #[.int .i64 0, .int .i64 0] 29)
            replace c3 := c3.alloc (.cells #[.int .i64 0, .int .i64 0] 29)
            have c5 := At2.new X106 0 0 29
            have l5 := hY106.size
            generalize X106.alloc (.cells #[.int .i64 0, .int .i64 0] 29) = X122 at c5 hY122 hy c3 ⊢
            generalize X106.heap.size = a5 at c5 l5 ⊢
            refine wpAnyH_ready (rs := [2]) (by kernel_rfl) (by simp) ?_
            refine cons7_2 rfl (fun K hK => ?_) (AllReadyH.nil)
            · refine step_append_bytes rfl _ _ rfl F.heap.size _ [] rfl hy _ la rfl (HA0.out X122 hY122) (by have := HL.out; simp; omega) hY122.size ?_
              intro v123 X123 hy2 hb hg
              replace c3 := c3.grown hg (c3.ne_own (by decide) hy)
              replace c5 := c5.grown hg (c5.ne_own (by decide) hy)
              clear hy hg
              refine hK.out _ _ (hY122.trans hb) (fun hY123 => ?_)
              clear hK K hb
              try simp only [Act.put, List.getElem_toArray, List.getElem_cons_zero, List.getElem_cons_succ, List.setIfInBounds_toArray, List.set_cons_zero, List.set_cons_succ]
              have hy := hy2
              clear hy2
              refine wpAnyH_ready (rs := [4]) (by kernel_rfl) (by simp) ?_
              refine cons7_4 rfl (fun K hK => ?_) (AllReadyH.nil)
              · refine step_append_bytes rfl _ _ rfl F.heap.size _ la rfl hy _ lb rfl (HB0.out X123 hY123) (by have := HL.out; simp; omega) hY123.size ?_
                intro v124 X124 hy2 hb hg
                replace c3 := c3.grown hg (c3.ne_own (by decide) hy)
                replace c5 := c5.grown hg (c5.ne_own (by decide) hy)
                clear hy hg
                refine hK.out _ _ (hY123.trans hb) (fun hY124 => ?_)
                clear hK K hb
                try simp only [Act.put, List.getElem_toArray, List.getElem_cons_zero, List.getElem_cons_succ, List.setIfInBounds_toArray, List.set_cons_zero, List.set_cons_succ]
                have hy := hy2
                clear hy2
                refine wpAnyH_ready (rs := [6]) (by kernel_rfl) (by simp) ?_
                refine cons7_6 rfl (fun K hK => ?_) (AllReadyH.nil)
                · go_simp
                  refine (HD.out _ _ hY124 hy).mono ?_
                  rintro e X125 ⟨z, rfl, hz0, hb⟩
                  clear hy
                  replace c3 := c3.below hb c3.lt
                  replace c5 := c5.below hb c5.lt
                  have hz : OwnR X125 F.heap.size z out3 := hz0.base hY124.size
                  clear hz0
                  refine hK.out _ _ (hY124.trans (hb.mono hY124.size)) (fun hY125 => ?_)
                  clear hK K hb
                  try simp only [Act.put, List.getElem_toArray, List.getElem_cons_zero, List.getElem_cons_succ, List.setIfInBounds_toArray, List.set_cons_zero, List.set_cons_succ]
                  refine wpAnyH_take (i := 7) (v := ?v7_115) rfl (by kernel_rfl) (by kernel_rfl) (by kernel_rfl) (fun _ _ _ h => h) (Or.inl ⟨by kernel_rfl, ?h7_115⟩) hY125 ?r7_115
                  case h7_115 => (rintro w' hb; go_simp; try (with_reducible rfl))
                  try simp only [Act.put, List.getElem_toArray, List.getElem_cons_zero, List.getElem_cons_succ, List.setIfInBounds_toArray, List.set_cons_zero, List.set_cons_succ]
                  refine wpAnyH_take (i := 8) (v := ?v8_116) rfl (by kernel_rfl) (by kernel_rfl) (by kernel_rfl) (fun _ _ _ h => h) (Or.inl ⟨by kernel_rfl, ?h8_116⟩) hY125 ?r8_116
                  case h8_116 => (rintro w' hb; go_simp; try (with_reducible rfl))
                  try simp only [Act.put, List.getElem_toArray, List.getElem_cons_zero, List.getElem_cons_succ, List.setIfInBounds_toArray, List.set_cons_zero, List.set_cons_succ]
                  refine wpAnyH_take (i := 9) (v := ?v9_117) rfl (by kernel_rfl) (by kernel_rfl) (by kernel_rfl) (fun _ _ _ h => h) (Or.inl ⟨by kernel_rfl, ?h9_117⟩) hY125 ?r9_117
                  case h9_117 => (rintro w' hb; go_simp; try (with_reducible rfl))
                  try simp only [Act.put, List.getElem_toArray, List.getElem_cons_zero, List.getElem_cons_succ, List.setIfInBounds_toArray, List.set_cons_zero, List.set_cons_succ]
                  refine wpAnyH_take (i := 10) (v := ?v10_118) rfl (by kernel_rfl) (by kernel_rfl) (by kernel_rfl) (fun _ _ _ h => h) (Or.inl ⟨by kernel_rfl, ?h10_118⟩) hY125 ?r10_118
                  case h10_118 => (rintro w' hb; go_simp; try (with_reducible rfl))
                  try simp only [Act.put, List.getElem_toArray, List.getElem_cons_zero, List.getElem_cons_succ, List.setIfInBounds_toArray, List.set_cons_zero, List.set_cons_succ]
                  refine wpAnyH_take (i := 13) (v := ?v13_119) rfl (by kernel_rfl) (by kernel_rfl) (by kernel_rfl) (fun _ _ _ h => h) (Or.inl ⟨by kernel_rfl, ?h13_119⟩) hY125 ?r13_119
                  case h13_119 => (rintro w' hb; go_simp; try (with_reducible rfl))
                  try simp only [Act.put, List.getElem_toArray, List.getElem_cons_zero, List.getElem_cons_succ, List.setIfInBounds_toArray, List.set_cons_zero, List.set_cons_succ]
                  refine wpAnyH_ready (rs := [14]) (by kernel_rfl) (by simp) ?_
                  refine cons7_14 rfl (fun K hK => ?_) (AllReadyH.nil)
                  · obtain ⟨k0, k1, kf0, kf1, kl⟩ := c3.cells
                    go_simp
                    refine hK.out _ _ ((hY125.setCell (p := ⟨a3, 0, none⟩) l3 _).setCell (p := ⟨a3, 1, none⟩) l3 _) (fun hY126 => ?_)
                    clear hK K k0 k1 kf0 kf1 kl
                    try simp only [Act.put, List.getElem_toArray, List.getElem_cons_zero, List.getElem_cons_succ, List.setIfInBounds_toArray, List.set_cons_zero, List.set_cons_succ]
                    replace hz := hz.far c3 (by decide) (.int .i64 J0) (.int .i64 J1)
                    replace c5 := c5.off c3 (by decide) (.int .i64 J0) (.int .i64 J1)
                    replace c3 := c3.put J0 J1
                    generalize ((X125.setCell ⟨a3, 0, none⟩ (.int .i64 J0)).setCell ⟨a3, 1, none⟩ (.int .i64 J1)) = X126 at c3 c5 hz hY126 ⊢
                    refine wpAnyH_ready (rs := [15]) (by kernel_rfl) (by simp) ?_
                    refine cons7_15 rfl (fun K hK => ?_) (AllReadyH.nil)
                    · obtain ⟨k0, k1, kf0, kf1, kl⟩ := c5.cells
                      go_simp
                      refine hK.out _ _ ((hY126.setCell (p := ⟨a5, 0, none⟩) l5 _).setCell (p := ⟨a5, 1, none⟩) l5 _) (fun hY127 => ?_)
                      clear hK K k0 k1 kf0 kf1 kl
                      try simp only [Act.put, List.getElem_toArray, List.getElem_cons_zero, List.getElem_cons_succ, List.setIfInBounds_toArray, List.set_cons_zero, List.set_cons_succ]
                      replace hz := hz.far c5 (by decide) (.int .i64 K0) (.int .i64 K1)
                      replace c3 := c3.off c5 (by decide) (.int .i64 K0) (.int .i64 K1)
                      replace c5 := c5.put K0 K1
                      generalize ((X126.setCell ⟨a5, 0, none⟩ (.int .i64 K0)).setCell ⟨a5, 1, none⟩ (.int .i64 K1)) = X127 at c3 c5 hz hY127 ⊢
                      refine wpAnyH_done (by kernel_rfl) ?_ _
                      try simp only [Act.put, List.getElem_toArray, List.getElem_cons_zero, List.getElem_cons_succ, List.setIfInBounds_toArray, List.set_cons_zero, List.set_cons_succ]
                      go_wp2
                      go_meet
                      exact ⟨a3, a5, rfl, rfl, c3, c5, hz, hY127, l3, l5⟩
        · go_simp
          refine hK.out _ _ (hY105.alloc hY105.size _) (fun hY128 => ?_)
          clear hK K
          try simp only [Act.put, List.getElem_toArray, List.getElem_cons_zero, List.getElem_cons_succ, List.setIfInBounds_toArray, List.set_cons_zero, List.set_cons_succ]
          replace c3 := c3.alloc (.cells #[.int .i64 0, .int .i64 0] 29)
          have c5 := At2.new X105 0 0 29
          have l5 := hY105.size
          generalize X105.alloc (.cells #[.int .i64 0, .int .i64 0] 29) = X128 at c5 hY128 c3 ⊢
          generalize X105.heap.size = a5 at c5 l5 ⊢
          refine wpAnyH_ready (rs := [0]) (by kernel_rfl) (by simp) ?_
          refine cons7_0 rfl (fun K hK => ?_) (AllReadyH.nil)
          · go_simp
            refine hK.out _ _ (hY128.alloc hY128.size _) (fun hY129 => ?_)
            clear hK K
            try simp only [Act.put, List.getElem_toArray, List.getElem_cons_zero, List.getElem_cons_succ, List.setIfInBounds_toArray, List.set_cons_zero, List.set_cons_succ]
            have hy := OwnY.made X128 F.heap.size hY128.size
            replace c3 := c3.alloc (.cells #[] 5)
            replace c5 := c5.alloc (.cells #[] 5)
            generalize X128.alloc (.cells #[] 5) = X129 at hY129 hy c3 c5 ⊢
            generalize X128.heap.size = yb at hy ⊢
            refine wpAnyH_ready (rs := [2]) (by kernel_rfl) (by simp) ?_
            refine cons7_2 rfl (fun K hK => ?_) (AllReadyH.nil)
            · refine step_append_bytes rfl _ _ rfl F.heap.size _ [] rfl hy _ la rfl (HA0.out X129 hY129) (by have := HL.out; simp; omega) hY129.size ?_
              intro v130 X130 hy2 hb hg
              replace c3 := c3.grown hg (c3.ne_own (by decide) hy)
              replace c5 := c5.grown hg (c5.ne_own (by decide) hy)
              clear hy hg
              refine hK.out _ _ (hY129.trans hb) (fun hY130 => ?_)
              clear hK K hb
              try simp only [Act.put, List.getElem_toArray, List.getElem_cons_zero, List.getElem_cons_succ, List.setIfInBounds_toArray, List.set_cons_zero, List.set_cons_succ]
              have hy := hy2
              clear hy2
              refine wpAnyH_ready (rs := [4]) (by kernel_rfl) (by simp) ?_
              refine cons7_4 rfl (fun K hK => ?_) (AllReadyH.nil)
              · refine step_append_bytes rfl _ _ rfl F.heap.size _ la rfl hy _ lb rfl (HB0.out X130 hY130) (by have := HL.out; simp; omega) hY130.size ?_
                intro v131 X131 hy2 hb hg
                replace c3 := c3.grown hg (c3.ne_own (by decide) hy)
                replace c5 := c5.grown hg (c5.ne_own (by decide) hy)
                clear hy hg
                refine hK.out _ _ (hY130.trans hb) (fun hY131 => ?_)
                clear hK K hb
                try simp only [Act.put, List.getElem_toArray, List.getElem_cons_zero, List.getElem_cons_succ, List.setIfInBounds_toArray, List.set_cons_zero, List.set_cons_succ]
                have hy := hy2
                clear hy2
                refine wpAnyH_ready (rs := [6]) (by kernel_rfl) (by simp) ?_
                refine cons7_6 rfl (fun K hK => ?_) (AllReadyH.nil)
                · go_simp
                  refine (HD.out _ _ hY131 hy).mono ?_
                  rintro e X132 ⟨z, rfl, hz0, hb⟩
                  clear hy
                  replace c3 := c3.below hb c3.lt
                  replace c5 := c5.below hb c5.lt
                  have hz : OwnR X132 F.heap.size z out3 := hz0.base hY131.size
                  clear hz0
                  refine hK.out _ _ (hY131.trans (hb.mono hY131.size)) (fun hY132 => ?_)
                  clear hK K hb
                  try simp only [Act.put, List.getElem_toArray, List.getElem_cons_zero, List.getElem_cons_succ, List.setIfInBounds_toArray, List.set_cons_zero, List.set_cons_succ]
                  refine wpAnyH_take (i := 7) (v := ?v7_120) rfl (by kernel_rfl) (by kernel_rfl) (by kernel_rfl) (fun _ _ _ h => h) (Or.inl ⟨by kernel_rfl, ?h7_120⟩) hY132 ?r7_120
                  case h7_120 => (rintro w' hb; go_simp; try (with_reducible rfl))
                  try simp only [Act.put, List.getElem_toArray, List.getElem_cons_zero, List.getElem_cons_succ, List.setIfInBounds_toArray, List.set_cons_zero, List.set_cons_succ]
                  refine wpAnyH_take (i := 8) (v := ?v8_121) rfl (by kernel_rfl) (by kernel_rfl) (by kernel_rfl) (fun _ _ _ h => h) (Or.inl ⟨by kernel_rfl, ?h8_121⟩) hY132 ?r8_121
                  case h8_121 => (rintro w' hb; go_simp; try (with_reducible rfl))
                  try simp only [Act.put, List.getElem_toArray, List.getElem_cons_zero, List.getElem_cons_succ, List.setIfInBounds_toArray, List.set_cons_zero, List.set_cons_succ]
                  refine wpAnyH_take (i := 9) (v := ?v9_122) rfl (by kernel_rfl) (by kernel_rfl) (by kernel_rfl) (fun _ _ _ h => h) (Or.inl ⟨by kernel_rfl, ?h9_122⟩) hY132 ?r9_122
                  case h9_122 => (rintro w' hb; go_simp; try (with_reducible rfl))
                  try simp only [Act.put, List.getElem_toArray, List.getElem_cons_zero, List.getElem_cons_succ, List.setIfInBounds_toArray, List.set_cons_zero, List.set_cons_succ]
                  refine wpAnyH_take (i := 10) (v := ?v10_123) rfl (by kernel_rfl) (by kernel_rfl) (by kernel_rfl) (fun _ _ _ h => h) (Or.inl ⟨by kernel_rfl, ?h10_123⟩) hY132 ?r10_123
                  case h10_123 => (rintro w' hb; go_simp; try (with_reducible rfl))
                  try simp only [Act.put, List.getElem_toArray, List.getElem_cons_zero, List.getElem_cons_succ, List.setIfInBounds_toArray, List.set_cons_zero, List.set_cons_succ]
                  refine wpAnyH_take (i := 13) (v := ?v13_124) rfl (by kernel_rfl) (by kernel_rfl) (by kernel_rfl) (fun _ _ _ h => h) (Or.inl ⟨by kernel_rfl, ?h13_124⟩) hY132 ?r13_124
                  case h13_124 => (rintro w' hb; go_simp; try (with_reducible rfl))
                  try simp only [Act.put, List.getElem_toArray, List.getElem_cons_zero, List.getElem_cons_succ, List.setIfInBounds_toArray, List.set_cons_zero, List.set_cons_succ]
                  refine wpAnyH_ready (rs := [14]) (by kernel_rfl) (by simp) ?_
                  refine cons7_14 rfl (fun K hK => ?_) (AllReadyH.nil)
                  · obtain ⟨k0, k1, kf0, kf1, kl⟩ := c3.cells
                    go_simp
                    refine hK.out _ _ ((hY132.setCell (p := ⟨a3, 0, none⟩) l3 _).setCell (p := ⟨a3, 1, none⟩) l3 _) (fun hY133 => ?_)
                    clear hK K k0 k1 kf0 kf1 kl
                    try simp only [Act.put, List.getElem_toArray, List.getElem_cons_zero, List.getElem_cons_succ, List.setIfInBounds_toArray, List.set_cons_zero, List.set_cons_succ]
                    replace hz := hz.far c3 (by decide) (.int .i64 J0) (.int .i64 J1)
                    replace c5 := c5.off c3 (by decide) (.int .i64 J0) (.int .i64 J1)
                    replace c3 := c3.put J0 J1
                    generalize ((X132.setCell ⟨a3, 0, none⟩ (.int .i64 J0)).setCell ⟨a3, 1, none⟩ (.int .i64 J1)) = X133 at c3 c5 hz hY133 ⊢
                    refine wpAnyH_ready (rs := [15]) (by kernel_rfl) (by simp) ?_
                    refine cons7_15 rfl (fun K hK => ?_) (AllReadyH.nil)
                    · obtain ⟨k0, k1, kf0, kf1, kl⟩ := c5.cells
                      go_simp
                      refine hK.out _ _ ((hY133.setCell (p := ⟨a5, 0, none⟩) l5 _).setCell (p := ⟨a5, 1, none⟩) l5 _) (fun hY134 => ?_)
                      clear hK K k0 k1 kf0 kf1 kl
                      try simp only [Act.put, List.getElem_toArray, List.getElem_cons_zero, List.getElem_cons_succ, List.setIfInBounds_toArray, List.set_cons_zero, List.set_cons_succ]
                      replace hz := hz.far c5 (by decide) (.int .i64 K0) (.int .i64 K1)
                      replace c3 := c3.off c5 (by decide) (.int .i64 K0) (.int .i64 K1)
                      replace c5 := c5.put K0 K1
                      generalize ((X133.setCell ⟨a5, 0, none⟩ (.int .i64 K0)).setCell ⟨a5, 1, none⟩ (.int .i64 K1)) = X134 at c3 c5 hz hY134 ⊢
                      refine wpAnyH_done (by kernel_rfl) ?_ _
                      try simp only [Act.put, List.getElem_toArray, List.getElem_cons_zero, List.getElem_cons_succ, List.setIfInBounds_toArray, List.set_cons_zero, List.set_cons_succ]
                      go_wp2
                      go_meet
                      exact ⟨a3, a5, rfl, rfl, c3, c5, hz, hY134, l3, l5⟩
      · go_simp
        refine hK.out _ _ (hHeld.alloc hHeld.size _) (fun hY135 => ?_)
        clear hK K
        try simp only [Act.put, List.getElem_toArray, List.getElem_cons_zero, List.getElem_cons_succ, List.setIfInBounds_toArray, List.set_cons_zero, List.set_cons_succ]
        have c5 := At2.new X0 0 0 29
        have l5 := hHeld.size
        generalize X0.alloc (.cells #[.int .i64 0, .int .i64 0] 29) = X135 at c5 hY135 ⊢
        generalize X0.heap.size = a5 at c5 l5 ⊢
        refine wpAnyH_ready (rs := [0, 11]) (by kernel_rfl) (by simp) ?_
        refine cons7_0 rfl (fun K hK => ?_) (cons7_11 rfl (fun K hK => ?_) (AllReadyH.nil))
        · go_simp
          refine hK.out _ _ (hY135.alloc hY135.size _) (fun hY136 => ?_)
          clear hK K
          try simp only [Act.put, List.getElem_toArray, List.getElem_cons_zero, List.getElem_cons_succ, List.setIfInBounds_toArray, List.set_cons_zero, List.set_cons_succ]
          have hy := OwnY.made X135 F.heap.size hY135.size
          replace c5 := c5.alloc (.cells #[] 5)
          generalize X135.alloc (.cells #[] 5) = X136 at hY136 hy c5 ⊢
          generalize X135.heap.size = yb at hy ⊢
          refine wpAnyH_ready (rs := [2, 11]) (by kernel_rfl) (by simp) ?_
          refine cons7_2 rfl (fun K hK => ?_) (cons7_11 rfl (fun K hK => ?_) (AllReadyH.nil))
          · refine step_append_bytes rfl _ _ rfl F.heap.size _ [] rfl hy _ la rfl (HA0.out X136 hY136) (by have := HL.out; simp; omega) hY136.size ?_
            intro v137 X137 hy2 hb hg
            replace c5 := c5.grown hg (c5.ne_own (by decide) hy)
            clear hy hg
            refine hK.out _ _ (hY136.trans hb) (fun hY137 => ?_)
            clear hK K hb
            try simp only [Act.put, List.getElem_toArray, List.getElem_cons_zero, List.getElem_cons_succ, List.setIfInBounds_toArray, List.set_cons_zero, List.set_cons_succ]
            have hy := hy2
            clear hy2
            refine wpAnyH_ready (rs := [4, 11]) (by kernel_rfl) (by simp) ?_
            refine cons7_4 rfl (fun K hK => ?_) (cons7_11 rfl (fun K hK => ?_) (AllReadyH.nil))
            · refine step_append_bytes rfl _ _ rfl F.heap.size _ la rfl hy _ lb rfl (HB0.out X137 hY137) (by have := HL.out; simp; omega) hY137.size ?_
              intro v138 X138 hy2 hb hg
              replace c5 := c5.grown hg (c5.ne_own (by decide) hy)
              clear hy hg
              refine hK.out _ _ (hY137.trans hb) (fun hY138 => ?_)
              clear hK K hb
              try simp only [Act.put, List.getElem_toArray, List.getElem_cons_zero, List.getElem_cons_succ, List.setIfInBounds_toArray, List.set_cons_zero, List.set_cons_succ]
              have hy := hy2
              clear hy2
              refine wpAnyH_ready (rs := [6, 11]) (by kernel_rfl) (by simp) ?_
              refine cons7_6 rfl (fun K hK => ?_) (cons7_11 rfl (fun K hK => ?_) (AllReadyH.nil))
              · go_simp
                refine (HD.out _ _ hY138 hy).mono ?_
                rintro e X139 ⟨z, rfl, hz0, hb⟩
                clear hy
                replace c5 := c5.below hb c5.lt
                have hz : OwnR X139 F.heap.size z out3 := hz0.base hY138.size
                clear hz0
                refine hK.out _ _ (hY138.trans (hb.mono hY138.size)) (fun hY139 => ?_)
                clear hK K hb
                try simp only [Act.put, List.getElem_toArray, List.getElem_cons_zero, List.getElem_cons_succ, List.setIfInBounds_toArray, List.set_cons_zero, List.set_cons_succ]
                refine wpAnyH_take (i := 7) (v := ?v7_125) rfl (by kernel_rfl) (by kernel_rfl) (by kernel_rfl) (fun _ _ _ h => h) (Or.inl ⟨by kernel_rfl, ?h7_125⟩) hY139 ?r7_125
                case h7_125 => (rintro w' hb; go_simp; try (with_reducible rfl))
                try simp only [Act.put, List.getElem_toArray, List.getElem_cons_zero, List.getElem_cons_succ, List.setIfInBounds_toArray, List.set_cons_zero, List.set_cons_succ]
                refine wpAnyH_take (i := 8) (v := ?v8_126) rfl (by kernel_rfl) (by kernel_rfl) (by kernel_rfl) (fun _ _ _ h => h) (Or.inl ⟨by kernel_rfl, ?h8_126⟩) hY139 ?r8_126
                case h8_126 => (rintro w' hb; go_simp; try (with_reducible rfl))
                try simp only [Act.put, List.getElem_toArray, List.getElem_cons_zero, List.getElem_cons_succ, List.setIfInBounds_toArray, List.set_cons_zero, List.set_cons_succ]
                refine wpAnyH_take (i := 9) (v := ?v9_127) rfl (by kernel_rfl) (by kernel_rfl) (by kernel_rfl) (fun _ _ _ h => h) (Or.inl ⟨by kernel_rfl, ?h9_127⟩) hY139 ?r9_127
                case h9_127 => (rintro w' hb; go_simp; try (with_reducible rfl))
                try simp only [Act.put, List.getElem_toArray, List.getElem_cons_zero, List.getElem_cons_succ, List.setIfInBounds_toArray, List.set_cons_zero, List.set_cons_succ]
                refine wpAnyH_take (i := 10) (v := ?v10_128) rfl (by kernel_rfl) (by kernel_rfl) (by kernel_rfl) (fun _ _ _ h => h) (Or.inl ⟨by kernel_rfl, ?h10_128⟩) hY139 ?r10_128
                case h10_128 => (rintro w' hb; go_simp; try (with_reducible rfl))
                try simp only [Act.put, List.getElem_toArray, List.getElem_cons_zero, List.getElem_cons_succ, List.setIfInBounds_toArray, List.set_cons_zero, List.set_cons_succ]
                refine wpAnyH_ready (rs := [11]) (by kernel_rfl) (by simp) ?_
                refine cons7_11 rfl (fun K hK => ?_) (AllReadyH.nil)
                · go_simp
                  refine hK.out _ _ (hY139.alloc hY139.size _) (fun hY140 => ?_)
                  clear hK K
                  try simp only [Act.put, List.getElem_toArray, List.getElem_cons_zero, List.getElem_cons_succ, List.setIfInBounds_toArray, List.set_cons_zero, List.set_cons_succ]
                  replace hz := OwnR.alloc hz (.cells #[.int .i64 0, .int .i64 0] 24)
                  replace c5 := c5.alloc (.cells #[.int .i64 0, .int .i64 0] 24)
                  have c3 := At2.new X139 0 0 24
                  have l3 := hY139.size
                  generalize X139.alloc (.cells #[.int .i64 0, .int .i64 0] 24) = X140 at c3 hY140 hz c5 ⊢
                  generalize X139.heap.size = a3 at c3 l3 ⊢
                  refine wpAnyH_take (i := 13) (v := ?v13_129) rfl (by kernel_rfl) (by kernel_rfl) (by kernel_rfl) (fun _ _ _ h => h) (Or.inl ⟨by kernel_rfl, ?h13_129⟩) hY140 ?r13_129
                  case h13_129 => (rintro w' hb; go_simp; try (with_reducible rfl))
                  try simp only [Act.put, List.getElem_toArray, List.getElem_cons_zero, List.getElem_cons_succ, List.setIfInBounds_toArray, List.set_cons_zero, List.set_cons_succ]
                  refine wpAnyH_ready (rs := [14]) (by kernel_rfl) (by simp) ?_
                  refine cons7_14 rfl (fun K hK => ?_) (AllReadyH.nil)
                  · obtain ⟨k0, k1, kf0, kf1, kl⟩ := c3.cells
                    go_simp
                    refine hK.out _ _ ((hY140.setCell (p := ⟨a3, 0, none⟩) l3 _).setCell (p := ⟨a3, 1, none⟩) l3 _) (fun hY141 => ?_)
                    clear hK K k0 k1 kf0 kf1 kl
                    try simp only [Act.put, List.getElem_toArray, List.getElem_cons_zero, List.getElem_cons_succ, List.setIfInBounds_toArray, List.set_cons_zero, List.set_cons_succ]
                    replace hz := hz.far c3 (by decide) (.int .i64 J0) (.int .i64 J1)
                    replace c5 := c5.off c3 (by decide) (.int .i64 J0) (.int .i64 J1)
                    replace c3 := c3.put J0 J1
                    generalize ((X140.setCell ⟨a3, 0, none⟩ (.int .i64 J0)).setCell ⟨a3, 1, none⟩ (.int .i64 J1)) = X141 at c3 c5 hz hY141 ⊢
                    refine wpAnyH_ready (rs := [15]) (by kernel_rfl) (by simp) ?_
                    refine cons7_15 rfl (fun K hK => ?_) (AllReadyH.nil)
                    · obtain ⟨k0, k1, kf0, kf1, kl⟩ := c5.cells
                      go_simp
                      refine hK.out _ _ ((hY141.setCell (p := ⟨a5, 0, none⟩) l5 _).setCell (p := ⟨a5, 1, none⟩) l5 _) (fun hY142 => ?_)
                      clear hK K k0 k1 kf0 kf1 kl
                      try simp only [Act.put, List.getElem_toArray, List.getElem_cons_zero, List.getElem_cons_succ, List.setIfInBounds_toArray, List.set_cons_zero, List.set_cons_succ]
                      replace hz := hz.far c5 (by decide) (.int .i64 K0) (.int .i64 K1)
                      replace c3 := c3.off c5 (by decide) (.int .i64 K0) (.int .i64 K1)
                      replace c5 := c5.put K0 K1
                      generalize ((X141.setCell ⟨a5, 0, none⟩ (.int .i64 K0)).setCell ⟨a5, 1, none⟩ (.int .i64 K1)) = X142 at c3 c5 hz hY142 ⊢
                      refine wpAnyH_done (by kernel_rfl) ?_ _
                      try simp only [Act.put, List.getElem_toArray, List.getElem_cons_zero, List.getElem_cons_succ, List.setIfInBounds_toArray, List.set_cons_zero, List.set_cons_succ]
                      go_wp2
                      go_meet
                      exact ⟨a3, a5, rfl, rfl, c3, c5, hz, hY142, l3, l5⟩
              · go_simp
                refine hK.out _ _ (hY138.alloc hY138.size _) (fun hY143 => ?_)
                clear hK K
                try simp only [Act.put, List.getElem_toArray, List.getElem_cons_zero, List.getElem_cons_succ, List.setIfInBounds_toArray, List.set_cons_zero, List.set_cons_succ]
                replace hy := OwnY.alloc hy (.cells #[.int .i64 0, .int .i64 0] 24)
                replace c5 := c5.alloc (.cells #[.int .i64 0, .int .i64 0] 24)
                have c3 := At2.new X138 0 0 24
                have l3 := hY138.size
                generalize X138.alloc (.cells #[.int .i64 0, .int .i64 0] 24) = X143 at c3 hY143 hy c5 ⊢
                generalize X138.heap.size = a3 at c3 l3 ⊢
                refine wpAnyH_ready (rs := [6]) (by kernel_rfl) (by simp) ?_
                refine cons7_6 rfl (fun K hK => ?_) (AllReadyH.nil)
                · go_simp
                  refine (HD.out _ _ hY143 hy).mono ?_
                  rintro e X144 ⟨z, rfl, hz0, hb⟩
                  clear hy
                  replace c3 := c3.below hb c3.lt
                  replace c5 := c5.below hb c5.lt
                  have hz : OwnR X144 F.heap.size z out3 := hz0.base hY143.size
                  clear hz0
                  refine hK.out _ _ (hY143.trans (hb.mono hY143.size)) (fun hY144 => ?_)
                  clear hK K hb
                  try simp only [Act.put, List.getElem_toArray, List.getElem_cons_zero, List.getElem_cons_succ, List.setIfInBounds_toArray, List.set_cons_zero, List.set_cons_succ]
                  refine wpAnyH_take (i := 7) (v := ?v7_130) rfl (by kernel_rfl) (by kernel_rfl) (by kernel_rfl) (fun _ _ _ h => h) (Or.inl ⟨by kernel_rfl, ?h7_130⟩) hY144 ?r7_130
                  case h7_130 => (rintro w' hb; go_simp; try (with_reducible rfl))
                  try simp only [Act.put, List.getElem_toArray, List.getElem_cons_zero, List.getElem_cons_succ, List.setIfInBounds_toArray, List.set_cons_zero, List.set_cons_succ]
                  refine wpAnyH_take (i := 8) (v := ?v8_131) rfl (by kernel_rfl) (by kernel_rfl) (by kernel_rfl) (fun _ _ _ h => h) (Or.inl ⟨by kernel_rfl, ?h8_131⟩) hY144 ?r8_131
                  case h8_131 => (rintro w' hb; go_simp; try (with_reducible rfl))
                  try simp only [Act.put, List.getElem_toArray, List.getElem_cons_zero, List.getElem_cons_succ, List.setIfInBounds_toArray, List.set_cons_zero, List.set_cons_succ]
                  refine wpAnyH_take (i := 9) (v := ?v9_132) rfl (by kernel_rfl) (by kernel_rfl) (by kernel_rfl) (fun _ _ _ h => h) (Or.inl ⟨by kernel_rfl, ?h9_132⟩) hY144 ?r9_132
                  case h9_132 => (rintro w' hb; go_simp; try (with_reducible rfl))
                  try simp only [Act.put, List.getElem_toArray, List.getElem_cons_zero, List.getElem_cons_succ, List.setIfInBounds_toArray, List.set_cons_zero, List.set_cons_succ]
                  refine wpAnyH_take (i := 10) (v := ?v10_133) rfl (by kernel_rfl) (by kernel_rfl) (by kernel_rfl) (fun _ _ _ h => h) (Or.inl ⟨by kernel_rfl, ?h10_133⟩) hY144 ?r10_133
                  case h10_133 => (rintro w' hb; go_simp; try (with_reducible rfl))
                  try simp only [Act.put, List.getElem_toArray, List.getElem_cons_zero, List.getElem_cons_succ, List.setIfInBounds_toArray, List.set_cons_zero, List.set_cons_succ]
                  refine wpAnyH_take (i := 13) (v := ?v13_134) rfl (by kernel_rfl) (by kernel_rfl) (by kernel_rfl) (fun _ _ _ h => h) (Or.inl ⟨by kernel_rfl, ?h13_134⟩) hY144 ?r13_134
                  case h13_134 => (rintro w' hb; go_simp; try (with_reducible rfl))
                  try simp only [Act.put, List.getElem_toArray, List.getElem_cons_zero, List.getElem_cons_succ, List.setIfInBounds_toArray, List.set_cons_zero, List.set_cons_succ]
                  refine wpAnyH_ready (rs := [14]) (by kernel_rfl) (by simp) ?_
                  refine cons7_14 rfl (fun K hK => ?_) (AllReadyH.nil)
                  · obtain ⟨k0, k1, kf0, kf1, kl⟩ := c3.cells
                    go_simp
                    refine hK.out _ _ ((hY144.setCell (p := ⟨a3, 0, none⟩) l3 _).setCell (p := ⟨a3, 1, none⟩) l3 _) (fun hY145 => ?_)
                    clear hK K k0 k1 kf0 kf1 kl
                    try simp only [Act.put, List.getElem_toArray, List.getElem_cons_zero, List.getElem_cons_succ, List.setIfInBounds_toArray, List.set_cons_zero, List.set_cons_succ]
                    replace hz := hz.far c3 (by decide) (.int .i64 J0) (.int .i64 J1)
                    replace c5 := c5.off c3 (by decide) (.int .i64 J0) (.int .i64 J1)
                    replace c3 := c3.put J0 J1
                    generalize ((X144.setCell ⟨a3, 0, none⟩ (.int .i64 J0)).setCell ⟨a3, 1, none⟩ (.int .i64 J1)) = X145 at c3 c5 hz hY145 ⊢
                    refine wpAnyH_ready (rs := [15]) (by kernel_rfl) (by simp) ?_
                    refine cons7_15 rfl (fun K hK => ?_) (AllReadyH.nil)
                    · obtain ⟨k0, k1, kf0, kf1, kl⟩ := c5.cells
                      go_simp
                      refine hK.out _ _ ((hY145.setCell (p := ⟨a5, 0, none⟩) l5 _).setCell (p := ⟨a5, 1, none⟩) l5 _) (fun hY146 => ?_)
                      clear hK K k0 k1 kf0 kf1 kl
                      try simp only [Act.put, List.getElem_toArray, List.getElem_cons_zero, List.getElem_cons_succ, List.setIfInBounds_toArray, List.set_cons_zero, List.set_cons_succ]
                      replace hz := hz.far c5 (by decide) (.int .i64 K0) (.int .i64 K1)
                      replace c3 := c3.off c5 (by decide) (.int .i64 K0) (.int .i64 K1)
                      replace c5 := c5.put K0 K1
                      generalize ((X145.setCell ⟨a5, 0, none⟩ (.int .i64 K0)).setCell ⟨a5, 1, none⟩ (.int .i64 K1)) = X146 at c3 c5 hz hY146 ⊢
                      refine wpAnyH_done (by kernel_rfl) ?_ _
                      try simp only [Act.put, List.getElem_toArray, List.getElem_cons_zero, List.getElem_cons_succ, List.setIfInBounds_toArray, List.set_cons_zero, List.set_cons_succ]
                      go_wp2
                      go_meet
                      exact ⟨a3, a5, rfl, rfl, c3, c5, hz, hY146, l3, l5⟩
            · go_simp
              refine hK.out _ _ (hY137.alloc hY137.size _) (fun hY147 => ?_)
              clear hK K
              try simp only [Act.put, List.getElem_toArray, List.getElem_cons_zero, List.getElem_cons_succ, List.setIfInBounds_toArray, List.set_cons_zero, List.set_cons_succ]
              replace hy := OwnY.alloc hy (.cells #[.int .i64 0, .int .i64 0] 24)
              replace c5 := c5.alloc (.cells #[.int .i64 0, .int .i64 0] 24)
              have c3 := At2.new X137 0 0 24
              have l3 := hY137.size
              generalize X137.alloc (.cells #[.int .i64 0, .int .i64 0] 24) = X147 at c3 hY147 hy c5 ⊢
              generalize X137.heap.size = a3 at c3 l3 ⊢
              refine wpAnyH_ready (rs := [4]) (by kernel_rfl) (by simp) ?_
              refine cons7_4 rfl (fun K hK => ?_) (AllReadyH.nil)
              · refine step_append_bytes rfl _ _ rfl F.heap.size _ la rfl hy _ lb rfl (HB0.out X147 hY147) (by have := HL.out; simp; omega) hY147.size ?_
                intro v148 X148 hy2 hb hg
                replace c3 := c3.grown hg (c3.ne_own (by decide) hy)
                replace c5 := c5.grown hg (c5.ne_own (by decide) hy)
                clear hy hg
                refine hK.out _ _ (hY147.trans hb) (fun hY148 => ?_)
                clear hK K hb
                try simp only [Act.put, List.getElem_toArray, List.getElem_cons_zero, List.getElem_cons_succ, List.setIfInBounds_toArray, List.set_cons_zero, List.set_cons_succ]
                have hy := hy2
                clear hy2
                refine wpAnyH_ready (rs := [6]) (by kernel_rfl) (by simp) ?_
                refine cons7_6 rfl (fun K hK => ?_) (AllReadyH.nil)
                · go_simp
                  refine (HD.out _ _ hY148 hy).mono ?_
                  rintro e X149 ⟨z, rfl, hz0, hb⟩
                  clear hy
                  replace c3 := c3.below hb c3.lt
                  replace c5 := c5.below hb c5.lt
                  have hz : OwnR X149 F.heap.size z out3 := hz0.base hY148.size
                  clear hz0
                  refine hK.out _ _ (hY148.trans (hb.mono hY148.size)) (fun hY149 => ?_)
                  clear hK K hb
                  try simp only [Act.put, List.getElem_toArray, List.getElem_cons_zero, List.getElem_cons_succ, List.setIfInBounds_toArray, List.set_cons_zero, List.set_cons_succ]
                  refine wpAnyH_take (i := 7) (v := ?v7_135) rfl (by kernel_rfl) (by kernel_rfl) (by kernel_rfl) (fun _ _ _ h => h) (Or.inl ⟨by kernel_rfl, ?h7_135⟩) hY149 ?r7_135
                  case h7_135 => (rintro w' hb; go_simp; try (with_reducible rfl))
                  try simp only [Act.put, List.getElem_toArray, List.getElem_cons_zero, List.getElem_cons_succ, List.setIfInBounds_toArray, List.set_cons_zero, List.set_cons_succ]
                  refine wpAnyH_take (i := 8) (v := ?v8_136) rfl (by kernel_rfl) (by kernel_rfl) (by kernel_rfl) (fun _ _ _ h => h) (Or.inl ⟨by kernel_rfl, ?h8_136⟩) hY149 ?r8_136
                  case h8_136 => (rintro w' hb; go_simp; try (with_reducible rfl))
                  try simp only [Act.put, List.getElem_toArray, List.getElem_cons_zero, List.getElem_cons_succ, List.setIfInBounds_toArray, List.set_cons_zero, List.set_cons_succ]
                  refine wpAnyH_take (i := 9) (v := ?v9_137) rfl (by kernel_rfl) (by kernel_rfl) (by kernel_rfl) (fun _ _ _ h => h) (Or.inl ⟨by kernel_rfl, ?h9_137⟩) hY149 ?r9_137
                  case h9_137 => (rintro w' hb; go_simp; try (with_reducible rfl))
                  try simp only [Act.put, List.getElem_toArray, List.getElem_cons_zero, List.getElem_cons_succ, List.setIfInBounds_toArray, List.set_cons_zero, List.set_cons_succ]
                  refine wpAnyH_take (i := 10) (v := ?v10_138) rfl (by kernel_rfl) (by kernel_rfl) (by kernel_rfl) (fun _ _ _ h => h) (Or.inl ⟨by kernel_rfl, ?h10_138⟩) hY149 ?r10_138
                  case h10_138 => (rintro w' hb; go_simp; try (with_reducible rfl))
                  try simp only [Act.put, List.getElem_toArray, List.getElem_cons_zero, List.getElem_cons_succ, List.setIfInBounds_toArray, List.set_cons_zero, List.set_cons_succ]
                  refine wpAnyH_take (i := 13) (v := ?v13_139) rfl (by kernel_rfl) (by kernel_rfl) (by kernel_rfl) (fun _ _ _ h => h) (Or.inl ⟨by kernel_rfl, ?h13_139⟩) hY149 ?r13_139
                  case h13_139 => (rintro w' hb; go_simp; try (with_reducible rfl))
                  try simp only [Act.put, List.getElem_toArray, List.getElem_cons_zero, List.getElem_cons_succ, List.setIfInBounds_toArray, List.set_cons_zero, List.set_cons_succ]
                  refine wpAnyH_ready (rs := [14]) (by kernel_rfl) (by simp) ?_
                  refine cons7_14 rfl (fun K hK => ?_) (AllReadyH.nil)
                  · obtain ⟨k0, k1, kf0, kf1, kl⟩ := c3.cells
                    go_simp
                    refine hK.out _ _ ((hY149.setCell (p := ⟨a3, 0, none⟩) l3 _).setCell (p := ⟨a3, 1, none⟩) l3 _) (fun hY150 => ?_)
                    clear hK K k0 k1 kf0 kf1 kl
                    try simp only [Act.put, List.getElem_toArray, List.getElem_cons_zero, List.getElem_cons_succ, List.setIfInBounds_toArray, List.set_cons_zero, List.set_cons_succ]
                    replace hz := hz.far c3 (by decide) (.int .i64 J0) (.int .i64 J1)
                    replace c5 := c5.off c3 (by decide) (.int .i64 J0) (.int .i64 J1)
                    replace c3 := c3.put J0 J1
                    generalize ((X149.setCell ⟨a3, 0, none⟩ (.int .i64 J0)).setCell ⟨a3, 1, none⟩ (.int .i64 J1)) = X150 at c3 c5 hz hY150 ⊢
                    refine wpAnyH_ready (rs := [15]) (by kernel_rfl) (by simp) ?_
                    refine cons7_15 rfl (fun K hK => ?_) (AllReadyH.nil)
                    · obtain ⟨k0, k1, kf0, kf1, kl⟩ := c5.cells
                      go_simp
                      refine hK.out _ _ ((hY150.setCell (p := ⟨a5, 0, none⟩) l5 _).setCell (p := ⟨a5, 1, none⟩) l5 _) (fun hY151 => ?_)
                      clear hK K k0 k1 kf0 kf1 kl
                      try simp only [Act.put, List.getElem_toArray, List.getElem_cons_zero, List.getElem_cons_succ, List.setIfInBounds_toArray, List.set_cons_zero, List.set_cons_succ]
                      replace hz := hz.far c5 (by decide) (.int .i64 K0) (.int .i64 K1)
                      replace c3 := c3.off c5 (by decide) (.int .i64 K0) (.int .i64 K1)
                      replace c5 := c5.put K0 K1
                      generalize ((X150.setCell ⟨a5, 0, none⟩ (.int .i64 K0)).setCell ⟨a5, 1, none⟩ (.int .i64 K1)) = X151 at c3 c5 hz hY151 ⊢
                      refine wpAnyH_done (by kernel_rfl) ?_ _
                      try simp only [Act.put, List.getElem_toArray, List.getElem_cons_zero, List.getElem_cons_succ, List.setIfInBounds_toArray, List.set_cons_zero, List.set_cons_succ]
                      go_wp2
                      go_meet
                      exact ⟨a3, a5, rfl, rfl, c3, c5, hz, hY151, l3, l5⟩
          · go_simp
            refine hK.out _ _ (hY136.alloc hY136.size _) (fun hY152 => ?_)
            clear hK K
            try simp only [Act.put, List.getElem_toArray, List.getElem_cons_zero, List.getElem_cons_succ, List.setIfInBounds_toArray, List.set_cons_zero, List.set_cons_succ]
            replace hy := OwnY.alloc hy (.cells #[.int .i64 0, .int .i64 0] 24)
            replace c5 := c5.alloc (.cells #[.int .i64 0, .int .i64 0] 24)
            have c3 := At2.new X136 0 0 24
            have l3 := hY136.size
            generalize X136.alloc (.cells #[.int .i64 0, .int .i64 0] 24) = X152 at c3 hY152 hy c5 ⊢
            generalize X136.heap.size = a3 at c3 l3 ⊢
            refine wpAnyH_ready (rs := [2]) (by kernel_rfl) (by simp) ?_
            refine cons7_2 rfl (fun K hK => ?_) (AllReadyH.nil)
            · refine step_append_bytes rfl _ _ rfl F.heap.size _ [] rfl hy _ la rfl (HA0.out X152 hY152) (by have := HL.out; simp; omega) hY152.size ?_
              intro v153 X153 hy2 hb hg
              replace c3 := c3.grown hg (c3.ne_own (by decide) hy)
              replace c5 := c5.grown hg (c5.ne_own (by decide) hy)
              clear hy hg
              refine hK.out _ _ (hY152.trans hb) (fun hY153 => ?_)
              clear hK K hb
              try simp only [Act.put, List.getElem_toArray, List.getElem_cons_zero, List.getElem_cons_succ, List.setIfInBounds_toArray, List.set_cons_zero, List.set_cons_succ]
              have hy := hy2
              clear hy2
              refine wpAnyH_ready (rs := [4]) (by kernel_rfl) (by simp) ?_
              refine cons7_4 rfl (fun K hK => ?_) (AllReadyH.nil)
              · refine step_append_bytes rfl _ _ rfl F.heap.size _ la rfl hy _ lb rfl (HB0.out X153 hY153) (by have := HL.out; simp; omega) hY153.size ?_
                intro v154 X154 hy2 hb hg
                replace c3 := c3.grown hg (c3.ne_own (by decide) hy)
                replace c5 := c5.grown hg (c5.ne_own (by decide) hy)
                clear hy hg
                refine hK.out _ _ (hY153.trans hb) (fun hY154 => ?_)
                clear hK K hb
                try simp only [Act.put, List.getElem_toArray, List.getElem_cons_zero, List.getElem_cons_succ, List.setIfInBounds_toArray, List.set_cons_zero, List.set_cons_succ]
                have hy := hy2
                clear hy2
                refine wpAnyH_ready (rs := [6]) (by kernel_rfl) (by simp) ?_
                refine cons7_6 rfl (fun K hK => ?_) (AllReadyH.nil)
                · go_simp
                  refine (HD.out _ _ hY154 hy).mono ?_
                  rintro e X155 ⟨z, rfl, hz0, hb⟩
                  clear hy
                  replace c3 := c3.below hb c3.lt
                  replace c5 := c5.below hb c5.lt
                  have hz : OwnR X155 F.heap.size z out3 := hz0.base hY154.size
                  clear hz0
                  refine hK.out _ _ (hY154.trans (hb.mono hY154.size)) (fun hY155 => ?_)
                  clear hK K hb
                  try simp only [Act.put, List.getElem_toArray, List.getElem_cons_zero, List.getElem_cons_succ, List.setIfInBounds_toArray, List.set_cons_zero, List.set_cons_succ]
                  refine wpAnyH_take (i := 7) (v := ?v7_140) rfl (by kernel_rfl) (by kernel_rfl) (by kernel_rfl) (fun _ _ _ h => h) (Or.inl ⟨by kernel_rfl, ?h7_140⟩) hY155 ?r7_140
                  case h7_140 => (rintro w' hb; go_simp; try (with_reducible rfl))
                  try simp only [Act.put, List.getElem_toArray, List.getElem_cons_zero, List.getElem_cons_succ, List.setIfInBounds_toArray, List.set_cons_zero, List.set_cons_succ]
                  refine wpAnyH_take (i := 8) (v := ?v8_141) rfl (by kernel_rfl) (by kernel_rfl) (by kernel_rfl) (fun _ _ _ h => h) (Or.inl ⟨by kernel_rfl, ?h8_141⟩) hY155 ?r8_141
                  case h8_141 => (rintro w' hb; go_simp; try (with_reducible rfl))
                  try simp only [Act.put, List.getElem_toArray, List.getElem_cons_zero, List.getElem_cons_succ, List.setIfInBounds_toArray, List.set_cons_zero, List.set_cons_succ]
                  refine wpAnyH_take (i := 9) (v := ?v9_142) rfl (by kernel_rfl) (by kernel_rfl) (by kernel_rfl) (fun _ _ _ h => h) (Or.inl ⟨by kernel_rfl, ?h9_142⟩) hY155 ?r9_142
                  case h9_142 => (rintro w' hb; go_simp; try (with_reducible rfl))
                  try simp only [Act.put, List.getElem_toArray, List.getElem_cons_zero, List.getElem_cons_succ, List.setIfInBounds_toArray, List.set_cons_zero, List.set_cons_succ]
                  refine wpAnyH_take (i := 10) (v := ?v10_143) rfl (by kernel_rfl) (by kernel_rfl) (by kernel_rfl) (fun _ _ _ h => h) (Or.inl ⟨by kernel_rfl, ?h10_143⟩) hY155 ?r10_143
                  case h10_143 => (rintro w' hb; go_simp; try (with_reducible rfl))
                  try simp only [Act.put, List.getElem_toArray, List.getElem_cons_zero, List.getElem_cons_succ, List.setIfInBounds_toArray, List.set_cons_zero, List.set_cons_succ]
                  refine wpAnyH_take (i := 13) (v := ?v13_144) rfl (by kernel_rfl) (by kernel_rfl) (by kernel_rfl) (fun _ _ _ h => h) (Or.inl ⟨by kernel_rfl, ?h13_144⟩) hY155 ?r13_144
                  case h13_144 => (rintro w' hb; go_simp; try (with_reducible rfl))
                  try simp only [Act.put, List.getElem_toArray, List.getElem_cons_zero, List.getElem_cons_succ, List.setIfInBounds_toArray, List.set_cons_zero, List.set_cons_succ]
                  refine wpAnyH_ready (rs := [14]) (by kernel_rfl) (by simp) ?_
                  refine cons7_14 rfl (fun K hK => ?_) (AllReadyH.nil)
                  · obtain ⟨k0, k1, kf0, kf1, kl⟩ := c3.cells
                    go_simp
                    refine hK.out _ _ ((hY155.setCell (p := ⟨a3, 0, none⟩) l3 _).setCell (p := ⟨a3, 1, none⟩) l3 _) (fun hY156 => ?_)
                    clear hK K k0 k1 kf0 kf1 kl
                    try simp only [Act.put, List.getElem_toArray, List.getElem_cons_zero, List.getElem_cons_succ, List.setIfInBounds_toArray, List.set_cons_zero, List.set_cons_succ]
                    replace hz := hz.far c3 (by decide) (.int .i64 J0) (.int .i64 J1)
                    replace c5 := c5.off c3 (by decide) (.int .i64 J0) (.int .i64 J1)
                    replace c3 := c3.put J0 J1
                    generalize ((X155.setCell ⟨a3, 0, none⟩ (.int .i64 J0)).setCell ⟨a3, 1, none⟩ (.int .i64 J1)) = X156 at c3 c5 hz hY156 ⊢
                    refine wpAnyH_ready (rs := [15]) (by kernel_rfl) (by simp) ?_
                    refine cons7_15 rfl (fun K hK => ?_) (AllReadyH.nil)
                    · obtain ⟨k0, k1, kf0, kf1, kl⟩ := c5.cells
                      go_simp
                      refine hK.out _ _ ((hY156.setCell (p := ⟨a5, 0, none⟩) l5 _).setCell (p := ⟨a5, 1, none⟩) l5 _) (fun hY157 => ?_)
                      clear hK K k0 k1 kf0 kf1 kl
                      try simp only [Act.put, List.getElem_toArray, List.getElem_cons_zero, List.getElem_cons_succ, List.setIfInBounds_toArray, List.set_cons_zero, List.set_cons_succ]
                      replace hz := hz.far c5 (by decide) (.int .i64 K0) (.int .i64 K1)
                      replace c3 := c3.off c5 (by decide) (.int .i64 K0) (.int .i64 K1)
                      replace c5 := c5.put K0 K1
                      generalize ((X156.setCell ⟨a5, 0, none⟩ (.int .i64 K0)).setCell ⟨a5, 1, none⟩ (.int .i64 K1)) = X157 at c3 c5 hz hY157 ⊢
                      refine wpAnyH_done (by kernel_rfl) ?_ _
                      try simp only [Act.put, List.getElem_toArray, List.getElem_cons_zero, List.getElem_cons_succ, List.setIfInBounds_toArray, List.set_cons_zero, List.set_cons_succ]
                      go_wp2
                      go_meet
                      exact ⟨a3, a5, rfl, rfl, c3, c5, hz, hY157, l3, l5⟩
        · go_simp
          refine hK.out _ _ (hY135.alloc hY135.size _) (fun hY158 => ?_)
          clear hK K
          try simp only [Act.put, List.getElem_toArray, List.getElem_cons_zero, List.getElem_cons_succ, List.setIfInBounds_toArray, List.set_cons_zero, List.set_cons_succ]
          replace c5 := c5.alloc (.cells #[.int .i64 0, .int .i64 0] 24)
          have c3 := At2.new X135 0 0 24
          have l3 := hY135.size
          generalize X135.alloc (.cells #[.int .i64 0, .int .i64 0] 24) = X158 at c3 hY158 c5 ⊢
          generalize X135.heap.size = a3 at c3 l3 ⊢
          refine wpAnyH_ready (rs := [0]) (by kernel_rfl) (by simp) ?_
          refine cons7_0 rfl (fun K hK => ?_) (AllReadyH.nil)
          · go_simp
            refine hK.out _ _ (hY158.alloc hY158.size _) (fun hY159 => ?_)
            clear hK K
            try simp only [Act.put, List.getElem_toArray, List.getElem_cons_zero, List.getElem_cons_succ, List.setIfInBounds_toArray, List.set_cons_zero, List.set_cons_succ]
            have hy := OwnY.made X158 F.heap.size hY158.size
            replace c3 := c3.alloc (.cells #[] 5)
            replace c5 := c5.alloc (.cells #[] 5)
            generalize X158.alloc (.cells #[] 5) = X159 at hY159 hy c3 c5 ⊢
            generalize X158.heap.size = yb at hy ⊢
            refine wpAnyH_ready (rs := [2]) (by kernel_rfl) (by simp) ?_
            refine cons7_2 rfl (fun K hK => ?_) (AllReadyH.nil)
            · refine step_append_bytes rfl _ _ rfl F.heap.size _ [] rfl hy _ la rfl (HA0.out X159 hY159) (by have := HL.out; simp; omega) hY159.size ?_
              intro v160 X160 hy2 hb hg
              replace c3 := c3.grown hg (c3.ne_own (by decide) hy)
              replace c5 := c5.grown hg (c5.ne_own (by decide) hy)
              clear hy hg
              refine hK.out _ _ (hY159.trans hb) (fun hY160 => ?_)
              clear hK K hb
              try simp only [Act.put, List.getElem_toArray, List.getElem_cons_zero, List.getElem_cons_succ, List.setIfInBounds_toArray, List.set_cons_zero, List.set_cons_succ]
              have hy := hy2
              clear hy2
              refine wpAnyH_ready (rs := [4]) (by kernel_rfl) (by simp) ?_
              refine cons7_4 rfl (fun K hK => ?_) (AllReadyH.nil)
              · refine step_append_bytes rfl _ _ rfl F.heap.size _ la rfl hy _ lb rfl (HB0.out X160 hY160) (by have := HL.out; simp; omega) hY160.size ?_
                intro v161 X161 hy2 hb hg
                replace c3 := c3.grown hg (c3.ne_own (by decide) hy)
                replace c5 := c5.grown hg (c5.ne_own (by decide) hy)
                clear hy hg
                refine hK.out _ _ (hY160.trans hb) (fun hY161 => ?_)
                clear hK K hb
                try simp only [Act.put, List.getElem_toArray, List.getElem_cons_zero, List.getElem_cons_succ, List.setIfInBounds_toArray, List.set_cons_zero, List.set_cons_succ]
                have hy := hy2
                clear hy2
                refine wpAnyH_ready (rs := [6]) (by kernel_rfl) (by simp) ?_
                refine cons7_6 rfl (fun K hK => ?_) (AllReadyH.nil)
                · go_simp
                  refine (HD.out _ _ hY161 hy).mono ?_
                  rintro e X162 ⟨z, rfl, hz0, hb⟩
                  clear hy
                  replace c3 := c3.below hb c3.lt
                  replace c5 := c5.below hb c5.lt
                  have hz : OwnR X162 F.heap.size z out3 := hz0.base hY161.size
                  clear hz0
                  refine hK.out _ _ (hY161.trans (hb.mono hY161.size)) (fun hY162 => ?_)
                  clear hK K hb
                  try simp only [Act.put, List.getElem_toArray, List.getElem_cons_zero, List.getElem_cons_succ, List.setIfInBounds_toArray, List.set_cons_zero, List.set_cons_succ]
                  refine wpAnyH_take (i := 7) (v := ?v7_145) rfl (by kernel_rfl) (by kernel_rfl) (by kernel_rfl) (fun _ _ _ h => h) (Or.inl ⟨by kernel_rfl, ?h7_145⟩) hY162 ?r7_145
                  case h7_145 => (rintro w' hb; go_simp; try (with_reducible rfl))
                  try simp only [Act.put, List.getElem_toArray, List.getElem_cons_zero, List.getElem_cons_succ, List.setIfInBounds_toArray, List.set_cons_zero, List.set_cons_succ]
                  refine wpAnyH_take (i := 8) (v := ?v8_146) rfl (by kernel_rfl) (by kernel_rfl) (by kernel_rfl) (fun _ _ _ h => h) (Or.inl ⟨by kernel_rfl, ?h8_146⟩) hY162 ?r8_146
                  case h8_146 => (rintro w' hb; go_simp; try (with_reducible rfl))
                  try simp only [Act.put, List.getElem_toArray, List.getElem_cons_zero, List.getElem_cons_succ, List.setIfInBounds_toArray, List.set_cons_zero, List.set_cons_succ]
                  refine wpAnyH_take (i := 9) (v := ?v9_147) rfl (by kernel_rfl) (by kernel_rfl) (by kernel_rfl) (fun _ _ _ h => h) (Or.inl ⟨by kernel_rfl, ?h9_147⟩) hY162 ?r9_147
                  case h9_147 => (rintro w' hb; go_simp; try (with_reducible rfl))
                  try simp only [Act.put, List.getElem_toArray, List.getElem_cons_zero, List.getElem_cons_succ, List.setIfInBounds_toArray, List.set_cons_zero, List.set_cons_succ]
                  refine wpAnyH_take (i := 10) (v := ?v10_148) rfl (by kernel_rfl) (by kernel_rfl) (by kernel_rfl) (fun _ _ _ h => h) (Or.inl ⟨by kernel_rfl, ?h10_148⟩) hY162 ?r10_148
                  case h10_148 => (rintro w' hb; go_simp; try (with_reducible rfl))
                  try simp only [Act.put, List.getElem_toArray, List.getElem_cons_zero, List.getElem_cons_succ, List.setIfInBounds_toArray, List.set_cons_zero, List.set_cons_succ]
                  refine wpAnyH_take (i := 13) (v := ?v13_149) rfl (by kernel_rfl) (by kernel_rfl) (by kernel_rfl) (fun _ _ _ h => h) (Or.inl ⟨by kernel_rfl, ?h13_149⟩) hY162 ?r13_149
                  case h13_149 => (rintro w' hb; go_simp; try (with_reducible rfl))
                  try simp only [Act.put, List.getElem_toArray, List.getElem_cons_zero, List.getElem_cons_succ, List.setIfInBounds_toArray, List.set_cons_zero, List.set_cons_succ]
                  refine wpAnyH_ready (rs := [14]) (by kernel_rfl) (by simp) ?_
                  refine cons7_14 rfl (fun K hK => ?_) (AllReadyH.nil)
                  · obtain ⟨k0, k1, kf0, kf1, kl⟩ := c3.cells
                    go_simp
                    refine hK.out _ _ ((hY162.setCell (p := ⟨a3, 0, none⟩) l3 _).setCell (p := ⟨a3, 1, none⟩) l3 _) (fun hY163 => ?_)
                    clear hK K k0 k1 kf0 kf1 kl
                    try simp only [Act.put, List.getElem_toArray, List.getElem_cons_zero, List.getElem_cons_succ, List.setIfInBounds_toArray, List.set_cons_zero, List.set_cons_succ]
                    replace hz := hz.far c3 (by decide) (.int .i64 J0) (.int .i64 J1)
                    replace c5 := c5.off c3 (by decide) (.int .i64 J0) (.int .i64 J1)
                    replace c3 := c3.put J0 J1
                    generalize ((X162.setCell ⟨a3, 0, none⟩ (.int .i64 J0)).setCell ⟨a3, 1, none⟩ (.int .i64 J1)) = X163 at c3 c5 hz hY163 ⊢
                    refine wpAnyH_ready (rs := [15]) (by kernel_rfl) (by simp) ?_
                    refine cons7_15 rfl (fun K hK => ?_) (AllReadyH.nil)
                    · obtain ⟨k0, k1, kf0, kf1, kl⟩ := c5.cells
                      go_simp
                      refine hK.out _ _ ((hY163.setCell (p := ⟨a5, 0, none⟩) l5 _).setCell (p := ⟨a5, 1, none⟩) l5 _) (fun hY164 => ?_)
                      clear hK K k0 k1 kf0 kf1 kl
                      try simp only [Act.put, List.getElem_toArray, List.getElem_cons_zero, List.getElem_cons_succ, List.setIfInBounds_toArray, List.set_cons_zero, List.set_cons_succ]
                      replace hz := hz.far c5 (by decide) (.int .i64 K0) (.int .i64 K1)
                      replace c3 := c3.off c5 (by decide) (.int .i64 K0) (.int .i64 K1)
                      replace c5 := c5.put K0 K1
                      generalize ((X163.setCell ⟨a5, 0, none⟩ (.int .i64 K0)).setCell ⟨a5, 1, none⟩ (.int .i64 K1)) = X164 at c3 c5 hz hY164 ⊢
                      refine wpAnyH_done (by kernel_rfl) ?_ _
                      try simp only [Act.put, List.getElem_toArray, List.getElem_cons_zero, List.getElem_cons_succ, List.setIfInBounds_toArray, List.set_cons_zero, List.set_cons_succ]
                      go_wp2
                      go_meet
                      exact ⟨a3, a5, rfl, rfl, c3, c5, hz, hY164, l3, l5⟩
    case rest =>
      obtain ⟨a3, a5, rfl, rfl, c3, c5, hz, hbx, l3, l5⟩ := hcut
      have HAns : Hid (Calls Tryd.prog 4 #[] wc fun e w9 => e = .returned (.bool true) ∧ Cells2 w9 b11 I0 I1 ∧ Cells2 w9 b12 M0 M1 ∧ Cells2 w9 a3 J0 J1 ∧ Cells2 w9 a5 K0 K1 ∧ Aside (Below w.heap.size w w9 ∧ OwnR w9 0 x out1 ∧ OwnR w9 0 y out2 ∧ OwnR w9 0 u13 out3)) := by
        obtain ⟨B, f1, f2, f3, f4, f5, f6⟩ := hFF.out
        have hwc : Below w.heap.size w wc := f1.trans (hbx.mono f1.size)
        refine (HA.out wc hwc).mono ?_
        rintro e w9 ⟨rfl, hb9⟩
        exact ⟨rfl, (f5.below hbx f5.lt).cells.below hb9 (f5.below hbx f5.lt).lt, (f6.below hbx f6.lt).cells.below hb9 (f6.below hbx f6.lt).lt, c3.cells.below hb9 c3.lt, c5.cells.below hb9 c5.lt, hwc.trans (hb9.mono hwc.size), ((f2.below hbx).below hb9).base (Nat.zero_le _), ((f3.below hbx).below hb9).base (Nat.zero_le _), (hz.below hb9).base (Nat.zero_le _)⟩
      clear hFF HFF HA0 HB0 HD HA c3 c5 hz hbx l3 l5 HL
      obtain ⟨p1, p2, p3⟩ := HP.out
      subst p1
      by_cases hM : K0 = 0
      · obtain ⟨rfl, rfl, p6⟩ := p3 hM
        subst hM
        have HO : Aside (out3 = out1 ++ out2) := p6
        have HRn : Hid (∀ X z' v' B, OwnR X B z' out3 → OwnR X B v' (out1 ++ out2) → Calls Tryd.prog 6 #[z', v'] X fun e w' => e = .returned (.bool true) ∧ Below X.heap.size X w') := fun X z' v' B h1 h2 => by
          obtain ⟨a', c', rfl, k1⟩ := h1.rowR
          obtain ⟨a'', c'', rfl, k2⟩ := h2.rowR
          have := HN.out
          have hc := cRunes a' a'' c' c'' out3 (out1 ++ out2) X k1 k2 (by omega) (by rw [List.length_append]; omega)
          rw [decide_eq_true p6] at hc
          exact hc
        clear p2 p3 p6 HP
        go_wp2_with (first
          | (go_at_call 6; refine (HRn.out _ _ _ 0 (OwnR.below H9.out.2.2.2 hb11) (ho2.base (Nat.zero_le _))).mono ?_; rintro e w12 ⟨rfl, hb12⟩)
          | (at_builtin; refine append_src (by kernel_rfl) _ _ rfl w9.heap.size _ out1 rfl ho1 _ out2 rfl ((OwnR.below H9.out.2.2.1 hb10).src) (by have := HN.out; omega) hb10.size ?_; intro v2 w11 ho2 hb11; replace hb11 : Below w9.heap.size w9 w11 := hb10.trans hb11)
          | (at_builtin; refine append_src (by kernel_rfl) _ _ rfl w9.heap.size _ [] rfl (OwnR.made w9 _ (Nat.le_refl _)) _ out1 rfl (OwnR.alloc H9.out.2.1 _).src (by have := HN.out; simp; omega) (by simp) ?_; intro v1 w10 ho1 hb10; replace hb10 : Below w9.heap.size w9 w10 := ((Below.refl _ w9).alloc (Nat.le_refl _) _).trans hb10)
          | (go_at_call 4; refine HAns.out.mono ?_; rintro e w9 ⟨rfl, ⟨s0, s1, sf0, sf1, sl⟩, ⟨t0, t1, tf0, tf1, tl⟩, ⟨u0, u1, uf0, uf1, ul⟩, ⟨v0, v1, vf0, vf1, vl⟩, H9⟩; clear HAns))
        go_ret
        exact ⟨rfl, H9.out.1.trans ((hb11.trans (hb12.mono hb11.size)).mono H9.out.1.size)⟩
      · have hK1 := p2 hM
        have hMb : (K0 == 0) = false := by simpa using hM
        have hwr : wrap64 ((N1 : Int) + M1) = K1 := by rw [hK1]; have := HN.out; unfold wrap64; omega
        clear p2 p3 HP hK1
        go_wp2_with (go_at_call 4; refine HAns.out.mono ?_; rintro e w9 ⟨rfl, ⟨s0, s1, sf0, sf1, sl⟩, ⟨t0, t1, tf0, tf1, tl⟩, ⟨u0, u1, uf0, uf1, ul⟩, ⟨v0, v1, vf0, vf1, vl⟩, H9⟩; clear HAns)
        go_ret
        refine ⟨?_, H9.out.1⟩
        rfl

/-- The law, at any arguments. -/
theorem joinsLaw (w : World) (hT : Tabs w) (a1 a2 : Option Addr) (c1 c2 : Nat) (la lb : List Int) (g0 g1 : Int) (hra : RowB w a1 la) (hrb : RowB w a2 lb) (hc1 : la.length ≤ c1 ∧ c1 ≤ 9223372036854775807) (hc2 : lb.length ≤ c2 ∧ c2 ≤ 9223372036854775807) (hn1 : a1 = none → c1 = 0) (hn2 : a2 = none → c2 = 0) (hya : ∀ x ∈ la, 0 ≤ x ∧ x ≤ 255) (hyb : ∀ x ∈ lb, 0 ≤ x ∧ x ≤ 255) :
    Calls Tryd.prog 3 #[.slice a1 la.length c1, .slice a2 lb.length c2, .agg #[.int .i64 g0, .int .i64 g1]] w fun e w' => e = .returned (.bool true) ∧ Below w.heap.size w w' := by
  by_cases h : la.length ≤ 300 ∧ lb.length ≤ 300
  · exact joinsSmall w hT a1 a2 c1 c2 la lb g0 g1 hra hrb hc1 hc2 hn1 hn2 hya hyb h.1 h.2
  · exact joinsBig w hT a1 a2 c1 c2 la.length lb.length g0 g1 h
end Go.Proofs.YtemhfcgkfdklhaaDoor.Look
