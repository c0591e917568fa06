/- strings.Fields (f18) at every string: ASCII by the shelf, else by FieldsFunc. -/
import Derived.Lib.TrimAscii
import Derived.Test.YtemhfcgkfdklhaaGreatDoorFF
set_option linter.unusedVariables false
namespace Go.Proofs.YtemhfcgkfdklhaaGreatDoor.FF
open Go Go.RowKit Go.Shelf Go.Lib Go.Proofs

def allAscii (s : ByteArray) : Bool := s.data.toList.all fun b => decide (b.toNat < 128)
/-- What strings.Fields hands over. -/
def fieldsG (s : ByteArray) : List ByteArray := if allAscii s then (Lib.fields s.data.toList).map (fun l => ⟨l.toArray⟩) else goFieldsP isSpaceR s

theorem orHi (a b : Nat) : 128 ≤ a ||| b ↔ 128 ≤ a ∨ 128 ≤ b := by
  refine ⟨fun h => ?_, fun h => h.elim (fun h => Nat.le_trans h Nat.left_le_or) (fun h => Nat.le_trans h Nat.right_le_or)⟩
  rcases Nat.lt_or_ge a 128 with ha | ha
  · rcases Nat.lt_or_ge b 128 with hb | hb
    · have := Nat.or_lt_two_pow (n := 7) ha hb
      omega
    · exact .inr hb
  · exact .inl ha

/-- Whether a byte of the first k is no ASCII. -/
def hi (s : ByteArray) (k : Nat) : Prop := ∃ (j : Nat) (b : UInt8), j < k ∧ s.data.toList[j]? = some b ∧ 128 ≤ b.toNat
theorem hi_succ {s : ByteArray} {k sb : Nat} {x : UInt8} (hx : s.data.toList[k]? = some x) (h : 128 ≤ sb ↔ hi s k) : 128 ≤ sb ||| x.toNat ↔ hi s (k + 1) := by
  rw [orHi, h]
  constructor
  · rintro (⟨j, b, hj, hb⟩ | h8)
    · exact ⟨j, b, by omega, hb⟩
    · exact ⟨k, x, by omega, hx, h8⟩
  · rintro ⟨j, b, hj, hb, h8⟩
    rcases Nat.lt_or_ge j k with h | h
    · exact .inl ⟨j, b, h, hb, h8⟩
    · obtain rfl : j = k := by omega
      rw [hx] at hb
      cases hb
      exact .inr h8

set_option maxHeartbeats 8000000 in
set_option maxRecDepth 1000000 in
theorem fieldsHigh (s : ByteArray) (w : World) (hs : s.size < 4294967281) (hh : hi s s.size)
    (hT : ∀ c : Nat, c < 256 → w.cell? ⟨0, c, none⟩ = some (.int .u8 (if Lib.isSp (UInt8.ofNat c) then 1 else 0))) (hW : Lib.WhiteTab 1 w) :
    Calls Tryz.prog 76 #[.string s] w fun e w' => ∃ A, e = .returned (.slice (some ⟨A, 0, none⟩) (goFieldsP isSpaceR s).length (goFieldsP isSpaceR s).length) ∧ w.heap.size ≤ A ∧
      w'.ownsRow w.heap.size 9 1 (.slice (some ⟨A, 0, none⟩) (goFieldsP isSpaceR s).length (goFieldsP isSpaceR s).length) (goFieldsP isSpaceR s).length ((goFieldsP isSpaceR s).map Value.string) ∧ Below w.heap.size w w' := by
  have cF := fieldsFunc s w (by omega) hW
  generalize goFieldsP isSpaceR s = GF at cF ⊢
  have HH : Aside (hi s s.size) := hh
  have HT : Aside (∀ c : Nat, c < 256 → w.cell? ⟨0, c, none⟩ = some (.int .u8 (if Lib.isSp (UInt8.ofNat c) then 1 else 0))) := hT
  clear hh hT hW
  go_enter Tryz.func76, Tryz.ntmps76
  go_wp2
  go_loopg [3, 4, 5, 6] s.size (fun g s3 s4 s5 s6 wx => w = wx ∧ ∃ (k nn sb : Nat) (ws : Bool), k ≤ s.size ∧ g = s.size - k ∧ s6 = .int .i64 k ∧ s3 = .int .i64 nn ∧ s4 = .int .i64 (if ws then 1 else 0) ∧ s5 = .int .u8 sb ∧ sb < 256 ∧ nn ≤ k ∧ Aside (128 ≤ sb ↔ hi s k))
  case atStart => exact ⟨rfl, 0, 0, 0, true, Nat.zero_le _, rfl, rfl, rfl, rfl, rfl, by omega, Nat.le_refl _, ⟨fun h => by omega, fun ⟨j, b, hj, _⟩ => by omega⟩⟩
  case round =>
    obtain ⟨rfl, k, nn, sb, ws, hk, rfl, rfl, rfl, rfl, rfl, hsb, hnk, hc⟩ := hrel
    by_cases hkn : k < s.size
    · have hkz : (k : Int) < (s.size : Int) := by omega
      obtain ⟨x, hx⟩ : ∃ x : UInt8, s[k] = x := ⟨_, rfl⟩
      have hxl : s.data.toList[k]? = some x := by rw [← hx]; exact Lib.data_getElem? s k hkn
      have hx256 := x.toNat_lt
      have hxz : (x.toNat : Int) < 256 := by omega
      have hTx : w.cell? ⟨0, x.toNat, none⟩ = some (.int .u8 (if Lib.isSp x then 1 else 0)) := by have := HT.out x.toNat (by omega); simpa using this
      have hor : bits .or .u8 (sb : Int) (x.toNat : Int) = ((sb ||| x.toNat : Nat) : Int) := u8_or_nat _ _ (by omega) (by omega)
      have hor256 : sb ||| x.toNat < 256 := Nat.or_lt_two_pow (n := 8) hsb (by omega)
      have HC : Aside (128 ≤ (sb ||| x.toNat) ↔ hi s (k + 1)) := hi_succ hxl hc.out
      clear hc hxl
      have b00 := andNot00; have b01 := andNot01; have b10 := andNot10; have b11 := andNot11
      cases hsx : Lib.isSp x <;> cases ws <;> rw [hsx] at hTx <;> simp only [if_true, Bool.false_eq_true, if_false] at hTx ⊢ <;>
        (go_wp2
         go_roundg (s.size - (k + 1))
         case measure => omega
         case rel =>
           first
             | exact ⟨rfl, k + 1, nn, sb ||| x.toNat, false, by omega, rfl, by first | rfl | simp, by first | rfl | (simp; unfold RowKit.wrap64; omega), rfl, by first | rfl | simp, hor256, by omega, HC⟩
             | exact ⟨rfl, k + 1, nn + 1, sb ||| x.toNat, false, by omega, rfl, by first | rfl | simp, by first | rfl | (simp; unfold RowKit.wrap64; omega), rfl, by first | rfl | simp, hor256, by omega, HC⟩
             | exact ⟨rfl, k + 1, nn, sb ||| x.toNat, true, by omega, rfl, by first | rfl | simp, by first | rfl | (simp; unfold RowKit.wrap64; omega), rfl, by first | rfl | simp, hor256, by omega, HC⟩)
    · obtain rfl : k = s.size := by omega
      generalize (if ws = true then (1 : Int) else 0) = v4
      have hkz : ¬ ((s.size : Int) < (s.size : Int)) := by omega
      have hsbz : (128 : Int) ≤ (sb : Int) := by
        have := hc.out.2 HH.out
        omega
      clear hc
      go_wp2_with (go_at_call 93; go_must (go_fit cF; rintro e W' ⟨A, rfl, hA1, hA2, hA3⟩))
      go_ret
      exact ⟨A, rfl, hA1, hA2, hA3⟩

theorem fields (s : ByteArray) (w : World) (hs : s.size < 4294967281) (htab : Lib.TabIs Tryz.prog w "strings.asciiSpace" .u8 Lib.asciiSpaceTab) (hW : Lib.WhiteTab 1 w) :
    Calls Tryz.prog 76 #[.string s] w fun e w' => ∃ A, e = .returned (.slice (some ⟨A, 0, none⟩) (fieldsG s).length (fieldsG s).length) ∧ w.heap.size ≤ A ∧
      w'.ownsRow w.heap.size 9 1 (.slice (some ⟨A, 0, none⟩) (fieldsG s).length (fieldsG s).length) (fieldsG s).length ((fieldsG s).map Value.string) ∧ Below w.heap.size w w' := by
  unfold fieldsG
  cases ha : allAscii s with
  | true =>
    rw [if_pos rfl]
    simp only [allAscii, List.all_eq_true, decide_eq_true_eq] at ha
    refine (Tryz.strings_Fields s w hs (fun j b hb => ha b (List.mem_of_getElem? hb)) htab).mono fun e w' ⟨he, hw⟩ => ?_
    subst he hw
    have hN : (Lib.fields s.data.toList).length ≤ s.size := by
      rw [Lib.fields_length, Lib.size_eq]
      have : ∀ (l : List UInt8) (ws : Bool), cntF ws l ≤ l.length := fun l => by
        induction l with
        | nil => intro ws; exact Nat.le_refl _
        | cons b t ih =>
          intro ws
          have := ih (isSp b)
          simp only [cntF, List.length_cons]
          split <;> omega
      exact this _ _
    have ho := World.ownsRow_lit (base := w.heap.size) (e := 9) (size := 1) w ((Lib.fields s.data.toList).map fun l => Value.string ⟨l.toArray⟩).toArray (Lib.fields s.data.toList).length (Nat.le_refl _) (by unfold maxLen; omega) (by simp)
    exact ⟨w.heap.size, by simp, Nat.le_refl _, by simpa [List.map_map, Function.comp_def] using ho, (Below.refl _ w).alloc (Nat.le_refl _) _⟩
  | false =>
    rw [if_neg (by simp)]
    have hh : hi s s.size := by
      simp only [allAscii, List.all_eq_false, decide_eq_true_eq] at ha
      obtain ⟨b, hb, h8⟩ := ha
      obtain ⟨j, hj⟩ := List.getElem?_of_mem hb
      exact ⟨j, b, by rw [Lib.size_eq]; exact (List.getElem?_eq_some_iff.1 hj).1, hj, by omega⟩
    exact fieldsHigh s w hs hh (fun c hc => by rw [htab.cell (by kernel_rfl) c (by rw [Lib.asciiSpaceTab_length]; exact hc), Lib.asciiSpaceTab_at c hc]) hW
end Go.Proofs.YtemhfcgkfdklhaaGreatDoor.FF
