/- (*reader).put, both ways; the cells of a reader. -/
import Derived.Test.YtemhfcgkfdklhaaGreatDoorPutO
import Derived.Test.YtemhfcgkfdklhaaGreatDoorCode
set_option linter.unusedVariables false
namespace Go.Proofs.YtemhfcgkfdklhaaGreatDoor.Look
open Go Go.RowKit Go.Shelf Go.Proofs Go.Proofs.YtemhfcgkfdklhaaGreatDoor.Rd

theorem cPut (wr W : World) (rb lim : Nat) (xp bs : Value) (s : RS) (r : Int) (n : Nat) (h : RA wr W rb lim xp bs s) (hlim : lim ≤ W.heap.size) (hn : n ≤ 3) (hb1 : s.out.length + s.marks.length ≤ 2000000) (hb2 : s.pos ≤ 2000000) :
    Calls Tryz.prog 48 #[.pointer (some ⟨rb, 0, none⟩), .int .i32 r, .int .i64 n] W fun e W' => e = .returned (.tuple #[]) ∧ PutOk wr W rb lim xp bs (putS markV s r n) W' := by
  cases hm : markV r with
  | true => exact cPutM wr W rb lim xp bs s r n h hlim hm hn (by omega) hb2
  | false => exact cPutO wr W rb lim xp bs s r n h hlim hm hn (by omega) hb2
theorem RA.cf {wr W : World} {rb lim b off N cb : Nat} {xp : Value} {s : RS} {l : List Int} (h : RA wr W rb lim xp (.slice (some ⟨b, off, none⟩) N cb) s) (hb : b < rb) (hl : ∀ j x, l[j]? = some x → wr.cell? ⟨b, off + j, none⟩ = some (.int .u8 x)) : CF W rb b off N cb s.pos l s.g0 s.g1 := by
  obtain ⟨⟨vo, vm, h1, _⟩, hbl⟩ := h
  exact ⟨h1.cell 1 _ rfl, h1.cell 2 _ rfl, h1.cell 3 _ rfl, h1.cell 4 _ rfl, fun j x hx => (hbl.cell (p := ⟨b, off + j, none⟩) hb).trans (hl j x hx), h1.lt, Nat.lt_trans hb h1.lt⟩
end Go.Proofs.YtemhfcgkfdklhaaGreatDoor.Look
