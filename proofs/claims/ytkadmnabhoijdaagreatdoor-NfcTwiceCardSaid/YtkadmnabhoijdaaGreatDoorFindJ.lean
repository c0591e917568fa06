/- pairs: Join over the table. -/
import Derived.Test.YtkadmnabhoijdaaGreatDoorFind
set_option linter.unusedVariables false
namespace Go.Proofs.YtkadmnabhoijdaaGreatDoor.New
open Go Go.RowKit Go.Shelf Go.Proofs

def isPair (a b : Int) (p : P4) : Bool := p.2.2.2 && decide (p.2.1 = a) && decide (p.2.2.1 = b)
/-- What two characters are joined to. -/
def joinV (T : List P4) (a b : Int) : Int × Bool := match T.find? (isPair a b) with
  | none => (0, false)
  | some p => (p.1, true)

set_option maxHeartbeats 8000000 in
set_option maxRecDepth 1000000 in
theorem tjoin (T : List P4) (b cap : Nat) (x y : Int) (w : World) (hT : RowAt T w b) (hlen : T.length ≤ 100000) :
    Calls Tryz.prog 40 #[.slice (some ⟨b, 0, none⟩) T.length cap, .int .i32 x, .int .i32 y] w fun e w' => e = .returned (.tuple #[.int .i32 (joinV T x y).1, .bool (joinV T x y).2]) ∧ Below w.heap.size w w' := by
  obtain ⟨V, hV⟩ : ∃ V, joinV T x y = V := ⟨_, rfl⟩
  rw [hV]
  have HV : Aside (joinV T x y = V) := hV
  clear hV
  obtain ⟨n, hn⟩ : ∃ n, n = T.length := ⟨_, rfl⟩
  rw [← hn] at hlen ⊢
  have HN : Aside (n = T.length) := hn
  clear hn
  go_enter Tryz.func40, Tryz.ntmps40
  go_wp2
  go_loopw [12] (fun vi wr => ∃ i : Nat, vi = .int .i64 i ∧ i ≤ n ∧ Below w.heap.size w wr ∧ Aside (T.find? (isPair x y) = (T.drop i).find? (isPair x y)))
    (fun vi _ => n - (intOf vi).toNat)
  case atStart => exact ⟨0, rfl, Nat.zero_le _, Below.refl _ _, rfl⟩
  obtain ⟨i, rfl, hin, hbw, HI⟩ := hrel
  have hTr := hT.below hbw
  by_cases hlt : i < n
  · have hltz : (i : Int) < (n : Int) := by omega
    obtain ⟨p, hp⟩ : ∃ p, T[i]? = some p := ⟨_, List.getElem?_eq_getElem (by have := HN.out; omega)⟩
    obtain ⟨c0, c1, c2, c3⟩ := hTr.at _ p hp
    have hdrop : T.drop i = p :: T.drop (i + 1) := by
      obtain ⟨h, e⟩ := List.getElem?_eq_some_iff.1 hp
      rw [List.drop_eq_getElem_cons h, e]
    have hbl := hTr.lt
    obtain ⟨pr, pa, pb, pj⟩ := p
    simp only at c0 c1 c2 c3
    have HD : Aside ((T.drop i).find? (isPair x y) = if isPair x y (pr, pa, pb, pj) then some (pr, pa, pb, pj) else (T.drop (i + 1)).find? (isPair x y)) := by
      show _ = _
      rw [hdrop, List.find?_cons]
      split <;> simp_all
    clear hp hdrop
    have no : isPair x y (pr, pa, pb, pj) = false → Aside (T.find? (isPair x y) = (T.drop (i + 1)).find? (isPair x y)) := fun h => by
      have h1 := HI.out
      have h2 := HD.out
      rw [h] at h2
      simp only [Bool.false_eq_true, if_false] at h2
      exact h1.trans h2
    have yes : isPair x y (pr, pa, pb, pj) = true → V = (pr, true) := fun h => by
      have h1 := HI.out
      have h2 := HD.out
      rw [h] at h2
      simp only [if_true] at h2
      rw [← HV.out]
      unfold joinV
      rw [h1.trans h2]
    cases pj with
    | false =>
      have hno := no (by simp [isPair])
      clear no yes HI HD
      go_wp2
      exact ⟨⟨i + 1, by congr 1, by omega, hbw.alloc hbw.size _, hno⟩, by simp [intOf]; omega⟩
    | true =>
      by_cases hx : pa = x
      · by_cases hy : pb = y
        · have hV2 := yes (by simp [isPair, hx, hy])
          clear no yes HI HD HV
          subst hx hy hV2
          go_wp2
          go_ret2
          exact ⟨rfl, hbw.alloc hbw.size _⟩
        · have hno := no (by simp [isPair, hy])
          have hyb : (pb == y) = false := by simpa using hy
          clear no yes HI HD
          subst hx
          go_wp2
          exact ⟨⟨i + 1, by congr 1, by omega, hbw.alloc hbw.size _, hno⟩, by simp [intOf]; omega⟩
      · have hno := no (by simp [isPair, hx])
        have hxb : (pa == x) = false := by simpa using hx
        clear no yes HI HD
        go_wp2
        exact ⟨⟨i + 1, by congr 1, by omega, hbw.alloc hbw.size _, hno⟩, by simp [intOf]; omega⟩
  · obtain rfl : i = n := by omega
    have hltz : ¬ ((i : Int) < (i : Int)) := by omega
    have hV2 : V = (0, false) := by
      rw [← HV.out]
      unfold joinV
      rw [HI.out, List.drop_eq_nil_of_le (by have := HN.out; omega)]
      rfl
    clear HV HI
    subst hV2
    go_wp2
    go_ret2
    exact ⟨rfl, hbw⟩

end Go.Proofs.YtkadmnabhoijdaaGreatDoor.New
