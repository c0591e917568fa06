/- strconv.ParseUint(s, 16, 32) (f19, f24) at one to four hexadecimal digits. -/
import Derived.Shelf.LaysM
import Derived.Lib.Strings
import Derived.Lib.Walk
import Derived.Lib.ConvBytes
import Derived.Lib.AtoiAllMem
import Derived.Lib.AtoiErrMem
import Derived.Lib.Hide
import Derived.Laws.Strings3
import Derived.Laws.Closers25
import Derived.Laws.Closers25b
import Derived.WalkKit
import Derived.BigCall
import Derived.BigGuard
import Derived.Test.YtemhfcgkfdklhaaGreatDoorFields
set_option linter.unusedVariables false
namespace Go.Proofs.YtemhfcgkfdklhaaGreatDoor.Hex
open Go Go.RowKit Go.Shelf Go.Proofs

/-- The digit that a byte is. -/
def hexD (c : UInt8) : Option Nat :=
  let n := c.toNat
  if 48 ≤ n ∧ n ≤ 57 then some (n - 48) else if 65 ≤ n ∧ n ≤ 70 then some (n - 55) else if 97 ≤ n ∧ n ≤ 102 then some (n - 87) else none
def hexV : Nat → List UInt8 → Option Nat
  | a, [] => some a
  | a, c :: l => (hexD c).bind fun d => hexV (a * 16 + d) l

theorem hexD_cases : ∀ (c : UInt8) (d : Nat), hexD c = some d → (48 ≤ c.toNat ∧ c.toNat ≤ 57 ∧ d = c.toNat - 48) ∨ (57 < c.toNat ∧ c.toNat ≠ 95 ∧ bits .or .u8 (c.toNat : Int) 32 = (d : Int) + 87 ∧ 10 ≤ d ∧ d ≤ 15) := by
  intro c d h
  have key : ∀ c : UInt8, ∀ d : Nat, d < 16 → hexD c = some d → (48 ≤ c.toNat ∧ c.toNat ≤ 57 ∧ d = c.toNat - 48) ∨ (57 < c.toNat ∧ c.toNat ≠ 95 ∧ bits .or .u8 (c.toNat : Int) 32 = (d : Int) + 87 ∧ 10 ≤ d ∧ d ≤ 15) := by
    intro c
    have : ∀ n : Fin 256, ∀ d : Nat, d < 16 → hexD (UInt8.ofNat n) = some d → (48 ≤ (UInt8.ofNat n).toNat ∧ (UInt8.ofNat n).toNat ≤ 57 ∧ d = (UInt8.ofNat n).toNat - 48) ∨ (57 < (UInt8.ofNat n).toNat ∧ (UInt8.ofNat n).toNat ≠ 95 ∧ bits .or .u8 ((UInt8.ofNat n).toNat : Int) 32 = (d : Int) + 87 ∧ 10 ≤ d ∧ d ≤ 15) := by decide +kernel
    have h := this ⟨c.toNat, c.toNat_lt⟩
    simpa using h
  refine key c d ?_ h
  unfold hexD at h
  simp only at h
  split at h
  · cases h; omega
  · split at h
    · cases h; omega
    · split at h
      · cases h; omega
      · cases h

theorem lower (c : Int) (w : World) : Calls Tryz.prog 102 #[.int .u8 c] w fun e w' => e = .returned (.int .u8 (bits .or .u8 c 32)) ∧ w' = w := by
  go_enter Tryz.func102, Tryz.ntmps102
  go_wp2
  go_ret
  exact ⟨rfl, rfl⟩

set_option maxHeartbeats 32000000 in
set_option maxRecDepth 100000 in
theorem inner (t : ByteArray) (v : Nat) (hv : hexV 0 t.data.toList = some v) (hne : t.size ≠ 0) (hmax : t.size ≤ 4) (w : World) :
    Calls Tryz.prog 95 #[.string t, .int .i64 16, .int .i64 32] w fun e w' => e = .returned (.tuple #[.int .u64 v, .nilIface]) ∧ Below w.heap.size w w' := by
  have hemp : t.toList.isEmpty = false := by
    rw [← decide_eq_emptyBytes]
    exact decide_eq_false (fun h => hne (by rw [h]; rfl))
  have hcv := Lib.run_convert_string_bytes (P := Tryz.prog) w 9 22 5 t (u := .string) (by kernel_rfl) (by kernel_rfl) (by kernel_rfl)
  have hB : ∀ j, j < t.size → (Lib.bytesWorld w 5 t).cell? ⟨w.heap.size, j, none⟩ = some (.int .u8 (t.data.toList.getD j 0).toNat) := fun j hj => Lib.bytesWorld_cell w 5 t j hj
  have hbw : Below w.heap.size w (Lib.bytesWorld w 5 t) := Lib.bytesWorld_below w 5 t
  obtain ⟨W1, hW1⟩ : ∃ W1, W1 = Lib.bytesWorld w 5 t := ⟨_, rfl⟩
  rw [← hW1] at hcv hB hbw
  clear hW1
  obtain ⟨bs, hL⟩ : ∃ bs, bs = t.data.toList := ⟨_, rfl⟩
  have hLn : bs.length = t.size := by rw [hL, Lib.size_eq]
  rw [← hL] at hB hv
  clear hL
  go_enter Tryz.func95, Tryz.ntmps95
  go_wp2
  go_loop [12, 13, 101] (fun vu vn vi => ∃ (k acc : Nat) (a : Int), vu = .bool false ∧ vn = .int .u64 a ∧ vi = .int .i64 k ∧ k ≤ t.size ∧ Hid (a = (acc : Int) ∧ acc < 16 ^ k ∧ hexV acc (bs.drop k) = some v))
    (fun _ _ vi => t.size - (intOf vi).toNat)
  case atStart => exact ⟨0, 0, 0, rfl, rfl, rfl, by omega, Lib.hid ⟨rfl, by decide, hv⟩⟩
  case round =>
    obtain ⟨k, acc, a, rfl, rfl, rfl, hk, hh⟩ := hrel
    obtain ⟨ha, hacc, hval⟩ := hh.out
    clear hh hv
    by_cases hkn : k < t.size
    · have hc := hB k hkn
      have hdrop : bs.drop k = bs[k]'(by omega) :: bs.drop (k + 1) := List.drop_eq_getElem_cons (by omega)
      have hget : bs.getD k 0 = bs[k]'(by omega) := by simp [List.getD, List.getElem?_eq_getElem (show k < bs.length by omega)]
      rw [hdrop] at hval
      rw [hget] at hc
      generalize bs[k]'(by omega) = c at hc hval
      have hc256 : c.toNat < 256 := c.toNat_lt
      obtain ⟨d, hd, hval2⟩ := Option.bind_eq_some_iff.1 hval
      have hp3 : 16 ^ k ≤ 4096 := Nat.le_trans (Nat.pow_le_pow_right (by decide) (show k ≤ 3 by omega)) (by decide)
      have hps : 16 ^ (k + 1) = 16 ^ k * 16 := Nat.pow_succ 16 k
      have hd16 : d ≤ 15 := by have := hexD_cases c d hd; omega
      have HN : Hid (a * 16 + (d : Int) = ((acc * 16 + d : Nat) : Int) ∧ acc * 16 + d < 16 ^ (k + 1) ∧ hexV (acc * 16 + d) (bs.drop (k + 1)) = some v) := Lib.hid ⟨by omega, by omega, hval2⟩
      have a0 : 0 ≤ a := by omega
      have a1 : a < 4096 := by omega
      clear hB hdrop hget hval hval2 hps hp3 hacc ha
      rcases hexD_cases c d hd with ⟨h0, h1, h2⟩ | ⟨h0, h1, h2, h3, h4⟩
      · have e1 : (d : Int) = (c.toNat : Int) - 48 := by omega
        rw [e1] at HN
        clear e1 h2 hd
        go_wp2
        refine ⟨⟨k + 1, acc * 16 + d, a * 16 + ((c.toNat : Int) - 48), rfl, (by first | rfl | (congr 1; omega)), (by first | rfl | (congr 1; omega)), by omega, HN⟩, by simp [intOf]; omega⟩
      · clear hd
        have g0 : 57 < (c.toNat : Int) := by omega
        have g1 : ¬ (c.toNat : Int) = 95 := by omega
        have g2 : (c.toNat : Int) < 256 := by omega
        have g3 : ¬ (c.toNat : Int) ≤ 57 := by omega
        clear h0 h1 hc256
        generalize (c.toNat : Int) = cz at *
        go_wp2_with (go_at_call 102; refine (lower _ _).mono ?_; rintro e w' ⟨rfl, rfl⟩; rw [h2])
        refine ⟨⟨k + 1, acc * 16 + d, a * 16 + (d : Int), rfl, (by congr 1; omega), (by first | rfl | (congr 1; omega)), by omega, HN⟩, by simp [intOf]; omega⟩
    · obtain rfl : k = t.size := by omega
      rw [List.drop_eq_nil_of_le (by omega)] at hval
      simp only [hexV, Option.some.injEq] at hval
      subst hval ha
      clear hacc
      go_wp2
      go_ret2
      exact ⟨rfl, hbw⟩

set_option maxHeartbeats 4000000 in
set_option maxRecDepth 100000 in
theorem parse (t : ByteArray) (v : Nat) (hv : hexV 0 t.data.toList = some v) (hne : t.size ≠ 0) (hmax : t.size ≤ 4) (w : World) :
    Calls Tryz.prog 77 #[.string t, .int .i64 16, .int .i64 32] w fun e w' => e = .returned (.tuple #[.int .u64 v, .nilIface]) ∧ Below w.heap.size w w' := by
  go_enter Tryz.func77, Tryz.ntmps77
  go_wp2_with (go_at_call 95; refine (inner t v hv hne hmax _).mono ?_; rintro e w' ⟨rfl, hb⟩)
  go_ret2
  exact ⟨rfl, hb⟩
end Go.Proofs.YtemhfcgkfdklhaaGreatDoor.Hex
