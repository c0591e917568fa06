/-
  DERIVED: THE SHELF's CONTRACTS AT THIS DUMP, IN PLAIN WORDS (tools/lay-plain.mjs out of 'TryzShelfYtemhfcgkfdklhaaGreatDoor.lean', which tools/lay-shelf.mjs wrote): THE SAME DECLARATIONS UNDER THE SAME NAMES: 'import', 'namespace', 'open', 'def', 'theorem' AND NOTHING ELSE: no command of the shelf's: FOR A HAND-IN. Each laying: the table of numbers ('.._ren') and one theorem, a field a fact of the dump's own or the kernel's comparison; each contract: ONE APPLICATION.
-/
import Derived.Shelf.Strconv.Itoa0
import Derived.Shelf.Strconv.Itoa1
import Derived.Shelf.LaysM
import Derived.Shelf.Strconv.Itoa2
import Derived.Shelf.Strconv.Itoa3
import Derived.Shelf.Strings.Search1
import Derived.Shelf.Strings.Search2
import Derived.Shelf.Strings.Search3
import Derived.Shelf.Strings.Shaped
import Derived.Shelf.Strings.Fields
import Derived.Shelf.Strings.SplitShaped
import Derived.Shelf.Unicode.Latin
import Derived.Shelf.Unicode.Decode
import Derived.Shelf.Unicode.DecodeSlow
import Derived.Shelf.Unicode.DecodeAny
import Derived.Shelf.Unicode.Is16White
import Derived.Shelf.Unicode.IsSpaceAny
import Derived.Shelf.Unicode.Is16Any
import Derived.Shelf.Unicode.Is32Any
import Derived.Shelf.Unicode.ExclAny
import Derived.Test.YtemhfcgkfdklhaaGreatDoorProg
namespace Go.Proofs
open Go.Shelf
def Tryz.lays129_ren : Go.Shelf.Ren := ⟨fun | 129 => 128 | n => n, fun | 53 => 132 | 3 => 3 | 4 => 4 | 46 => 123 | 5 => 5 | 9 => 9 | n => n, fun | n => n⟩
theorem Tryz.lays129 : Go.Proofs.Lays.n129 Tryz.prog Tryz.lays129_ren := {
  mixed := by kernel_rfl
  f129 := Tryz.func128.trans (congrArg some (by kernel_rfl))
  t3 := Tryz.underlying3
  a3 := Tryz.isAgg3
  z3 := Tryz.sizeOf3
  v3 := Tryz.zeroValue3
  t4 := Tryz.underlying4
  a4 := Tryz.isAgg4
  z4 := Tryz.sizeOf4
  v4 := Tryz.zeroValue4
  t5 := Tryz.underlying5
  a5 := Tryz.isAgg5
  z5 := Tryz.sizeOf5
  v5 := Tryz.zeroValue5
  t9 := Tryz.underlying9
  a9 := Tryz.isAgg9
  z9 := Tryz.sizeOf9
  v9 := Tryz.zeroValue9
  t46 := Tryz.underlying123
  a46 := Tryz.isAgg123
  z46 := Tryz.sizeOf123
  v46 := Tryz.zeroValue123
  t53 := Tryz.underlying132
  a53 := Tryz.isAgg132
  z53 := Tryz.sizeOf132
  v53 := Tryz.zeroValue132 }
/-- bits.Len64: "Len64 returns the minimum number of bits required to represent x; the result is 0 for x == 0.": IT RETURNS 'Lib.bitLen x'; the world is as it was. ('h0', 'h1': x is a uint64.) (LAID: no walk: one application.) -/
theorem Tryz.bits_Len64 (x : Int) (w : World) (h0 : 0 ≤ x) (h1 : x ≤ 18446744073709551615) :
    Calls Tryz.prog 128 #[.int .u64 x] w fun e w' => e = .returned (.int .i64 (Lib.bitLen x.toNat)) ∧ w' = w := Any.bits_Len64 Tryz.lays129 x w h0 h1
def Tryz.lays317_ren : Go.Shelf.Ren := ⟨fun | 317 => 127 | n => n, fun | 3 => 3 | 46 => 123 | n => n, fun | n => n⟩
theorem Tryz.lays317 : Go.Proofs.Lays.n317 Tryz.prog Tryz.lays317_ren := {
  mixed := by kernel_rfl
  f317 := Tryz.func127.trans (congrArg some (by kernel_rfl))
  t3 := Tryz.underlying3
  a3 := Tryz.isAgg3
  z3 := Tryz.sizeOf3
  v3 := Tryz.zeroValue3
  t46 := Tryz.underlying123
  a46 := Tryz.isAgg123
  z46 := Tryz.sizeOf123
  v46 := Tryz.zeroValue123 }
open Go.Lib in
/-- internal/strconv.log10Pow2: "log10Pow2(x) returns ⌊log₁₀ 2**x⌋ = ⌊x * log₁₀ 2⌋.": '(x * 78913) >> 18', at an x up to 64 (a length in bits). The world is as it was. (LAID: no walk: one application.) -/
theorem Tryz.internal_strconv_log10Pow2 (x : Nat) (h : x ≤ 64) (w : World) :
    Calls Tryz.prog 127 #[.int .i64 x] w fun e w' => e = .returned (.int .i64 (Lib.l10 x)) ∧ w' = w := Any.internal_strconv_log10Pow2 Tryz.lays317 x h w
def Tryz.lays318_ren : Go.Shelf.Ren := ⟨fun | 318 => 129 | n => n, fun | 3 => 3 | 4 => 4 | n => n, fun | n => n⟩
theorem Tryz.lays318 : Go.Proofs.Lays.n318 Tryz.prog Tryz.lays318_ren := {
  mixed := by kernel_rfl
  f318 := Tryz.func129.trans (congrArg some (by kernel_rfl))
  t3 := Tryz.underlying3
  a3 := Tryz.isAgg3
  z3 := Tryz.sizeOf3
  v3 := Tryz.zeroValue3
  t4 := Tryz.underlying4
  a4 := Tryz.isAgg4
  z4 := Tryz.sizeOf4
  v4 := Tryz.zeroValue4 }
open Go.Lib in
/-- internal/strconv.bool2: "bool2 converts b to an integer: 1 for true, 0 for false." The world is as it was. (LAID: no walk: one application.) -/
theorem Tryz.internal_strconv_bool2_int (b : Bool) (w : World) :
    Calls Tryz.prog 129 #[.bool b] w fun e w' => e = .returned (.int .i64 (if b then 1 else 0)) ∧ w' = w := Any.internal_strconv_bool2_int Tryz.lays318 b w
def Tryz.lays283_ren : Go.Shelf.Ren := ⟨fun | 283 => 123 | n => n, fun | 3 => 3 | 9 => 9 | 4 => 4 | n => n, fun | n => n⟩
theorem Tryz.lays283 : Go.Proofs.Lays.n283 Tryz.prog Tryz.lays283_ren := {
  mixed := by kernel_rfl
  f283 := Tryz.func123.trans (congrArg some (by kernel_rfl))
  t3 := Tryz.underlying3
  a3 := Tryz.isAgg3
  z3 := Tryz.sizeOf3
  v3 := Tryz.zeroValue3
  t4 := Tryz.underlying4
  a4 := Tryz.isAgg4
  z4 := Tryz.sizeOf4
  v4 := Tryz.zeroValue4
  t9 := Tryz.underlying9
  a9 := Tryz.isAgg9
  z9 := Tryz.sizeOf9
  v9 := Tryz.zeroValue9 }
open Go.Lib in
/-- internal/strconv.small: "small returns the string for an i with 0 <= i < nSmalls.": i's decimal numeral. The world is as it was. (LAID: no walk: one application.) -/
theorem Tryz.internal_strconv_small (i : Nat) (h : i < 100) (w : World) :
    Calls Tryz.prog 123 #[.int .i64 i] w fun e w' => e = .returned (.string ⟨(Lib.decDigits i).toArray⟩) ∧ w' = w := Any.internal_strconv_small Tryz.lays283 i h w
def Tryz.laysM284_ren : Go.Shelf.Ren := ⟨fun | 284 => 124 | 129 => 128 | 317 => 127 | 318 => 129 | n => n, fun | 53 => 132 | 3 => 3 | 212 => 198 | 0 => 0 | 4 => 4 | 46 => 123 | 5 => 5 | 9 => 9 | n => n, fun | 17 => 7 | n => n⟩
theorem Tryz.laysM284 : Go.Proofs.LaysM.n284 Tryz.prog Tryz.laysM284_ren := {
  mixed := by kernel_rfl
  f129 := Tryz.func128.trans (congrArg some (by kernel_rfl))
  f284 := Tryz.func124.trans (congrArg some (by kernel_rfl))
  f317 := Tryz.func127.trans (congrArg some (by kernel_rfl))
  f318 := Tryz.func129.trans (congrArg some (by kernel_rfl))
  t0 := Tryz.underlying0
  a0 := Tryz.isAgg0
  z0 := Tryz.sizeOf0
  v0 := Tryz.zeroValue0
  t3 := Tryz.underlying3
  a3 := Tryz.isAgg3
  z3 := Tryz.sizeOf3
  v3 := Tryz.zeroValue3
  t4 := Tryz.underlying4
  a4 := Tryz.isAgg4
  z4 := Tryz.sizeOf4
  v4 := Tryz.zeroValue4
  t5 := Tryz.underlying5
  a5 := Tryz.isAgg5
  z5 := Tryz.sizeOf5
  v5 := Tryz.zeroValue5
  t9 := Tryz.underlying9
  a9 := Tryz.isAgg9
  z9 := Tryz.sizeOf9
  v9 := Tryz.zeroValue9
  t46 := Tryz.underlying123
  a46 := Tryz.isAgg123
  z46 := Tryz.sizeOf123
  v46 := Tryz.zeroValue123
  t53 := Tryz.underlying132
  a53 := Tryz.isAgg132
  z53 := Tryz.sizeOf132
  v53 := Tryz.zeroValue132
  t212 := Tryz.underlying198
  a212 := Tryz.isAgg198
  z212 := Tryz.sizeOf198
  v212 := Tryz.zeroValue198
  g17 := by kernel_rfl
  i0 := by kernel_rfl
  i3 := by kernel_rfl
  i4 := by kernel_rfl
  i5 := by kernel_rfl
  i9 := by kernel_rfl
  i46 := by kernel_rfl
  i53 := by kernel_rfl
  i212 := by kernel_rfl
  m17 := by kernel_rfl }
open Go.Lib in
/-- internal/strconv.numDigits, at a d that is not 0: THE NUMBER OF d's DECIMAL DIGITS. The world is as it was. (LAID: no walk: one application.) -/
theorem Tryz.internal_strconv_numDigits (u : Nat) (h1 : 1 ≤ u) (h2 : u < 18446744073709551616) (w : World) (htab : Lib.TabIs Tryz.prog w "internal/strconv.uint64pow10" .u64 Lib.pow10Tab) :
    Calls Tryz.prog 124 #[.int .u64 u] w fun e w' => e = .returned (.int .i64 (Lib.nDigits u)) ∧ w' = w := Any.internal_strconv_numDigits Tryz.laysM284 u h1 h2 w htab
def Tryz.lays285_ren : Go.Shelf.Ren := ⟨fun | 285 => 125 | n => n, fun | 37 => 22 | 53 => 132 | 3 => 3 | 4 => 4 | 51 => 156 | 9 => 9 | 5 => 5 | 0 => 0 | n => n, fun | n => n⟩
theorem Tryz.lays285 : Go.Proofs.Lays.n285 Tryz.prog Tryz.lays285_ren := {
  mixed := by kernel_rfl
  f285 := Tryz.func125.trans (congrArg some (by kernel_rfl))
  t0 := Tryz.underlying0
  a0 := Tryz.isAgg0
  z0 := Tryz.sizeOf0
  v0 := Tryz.zeroValue0
  t3 := Tryz.underlying3
  a3 := Tryz.isAgg3
  z3 := Tryz.sizeOf3
  v3 := Tryz.zeroValue3
  t4 := Tryz.underlying4
  a4 := Tryz.isAgg4
  z4 := Tryz.sizeOf4
  v4 := Tryz.zeroValue4
  t5 := Tryz.underlying5
  a5 := Tryz.isAgg5
  z5 := Tryz.sizeOf5
  v5 := Tryz.zeroValue5
  t9 := Tryz.underlying9
  a9 := Tryz.isAgg9
  z9 := Tryz.sizeOf9
  v9 := Tryz.zeroValue9
  t37 := Tryz.underlying22
  a37 := Tryz.isAgg22
  z37 := Tryz.sizeOf22
  v37 := Tryz.zeroValue22
  t51 := Tryz.underlying156
  a51 := Tryz.isAgg156
  z51 := Tryz.sizeOf156
  v51 := Tryz.zeroValue156
  t53 := Tryz.underlying132
  a53 := Tryz.isAgg132
  z53 := Tryz.sizeOf132
  v53 := Tryz.zeroValue132 }
open Go.RowKit Go.Sort Go.Lib in
/-- internal/strconv.formatBase10: "formatBase10 formats the decimal representation of u into a. The caller is responsible for ensuring that a is big enough to hold u. If a is too big, leading zeros will be filled in as needed.": THE ROW HOLDS u's DIGITS ('FmtInv .. 0 ..': every place t holds 'dg u (len - 1 - t)'); all else is as it was but for the count of draws. (LAID: no walk: one application.) -/
theorem Tryz.internal_strconv_formatBase10 (blk off cap : Nat) (u : Nat) (d : Array UInt8) (w : World) (hH : Holds (fun (b : UInt8) => Value.int .u8 (b.toNat : Int)) w blk off d) (hu : u < 10 ^ d.size) (hu64 : u < 18446744073709551616) (hsz : d.size < 4611686018427387904) :
    Calls Tryz.prog 125 #[.slice (some ⟨blk, off, none⟩) d.size cap, .int .u64 u] w fun e w' =>
      e = .returned (.tuple #[]) ∧ ∃ (n v' : Nat) (dk : Array UInt8), w' = (putRow (fun (b : UInt8) => Value.int .u8 (b.toNat : Int)) w blk off dk).drewN n ∧ FmtInv d.size u 0 v' dk := Any.internal_strconv_formatBase10 Tryz.lays285 blk off cap u d w hH hu hu64 hsz
def Tryz.laysM246_ren : Go.Shelf.Ren := ⟨fun | 246 => 122 | 283 => 123 | 284 => 124 | 285 => 125 | 286 => 126 | 129 => 128 | 317 => 127 | 318 => 129 | 319 => 130 | 320 => 131 | 337 => 132 | 338 => 133 | n => n, fun | 2 => 2 | 3 => 3 | 9 => 9 | 4 => 4 | 171 => 192 | 0 => 0 | 53 => 132 | 37 => 22 | 5 => 5 | 173 => 195 | 212 => 198 | 51 => 156 | 20 => 20 | 213 => 199 | 46 => 123 | 232 => 202 | 233 => 203 | n => n, fun | 17 => 7 | 18 => 8 | 19 => 9 | n => n⟩
theorem Tryz.laysM246 : Go.Proofs.LaysM.n246 Tryz.prog Tryz.laysM246_ren := {
  mixed := by kernel_rfl
  f129 := Tryz.func128.trans (congrArg some (by kernel_rfl))
  f246 := Tryz.func122.trans (congrArg some (by kernel_rfl))
  f283 := Tryz.func123.trans (congrArg some (by kernel_rfl))
  f284 := Tryz.func124.trans (congrArg some (by kernel_rfl))
  f285 := Tryz.func125.trans (congrArg some (by kernel_rfl))
  f286 := Tryz.func126.trans (congrArg some (by kernel_rfl))
  f317 := Tryz.func127.trans (congrArg some (by kernel_rfl))
  f318 := Tryz.func129.trans (congrArg some (by kernel_rfl))
  f319 := Tryz.func130.trans (congrArg some (by kernel_rfl))
  f320 := Tryz.func131.trans (congrArg some (by kernel_rfl))
  f337 := Tryz.func132.trans (congrArg some (by kernel_rfl))
  f338 := Tryz.func133.trans (congrArg some (by kernel_rfl))
  t0 := Tryz.underlying0
  a0 := Tryz.isAgg0
  z0 := Tryz.sizeOf0
  v0 := Tryz.zeroValue0
  t2 := Tryz.underlying2
  a2 := Tryz.isAgg2
  z2 := Tryz.sizeOf2
  v2 := Tryz.zeroValue2
  t3 := Tryz.underlying3
  a3 := Tryz.isAgg3
  z3 := Tryz.sizeOf3
  v3 := Tryz.zeroValue3
  t4 := Tryz.underlying4
  a4 := Tryz.isAgg4
  z4 := Tryz.sizeOf4
  v4 := Tryz.zeroValue4
  t5 := Tryz.underlying5
  a5 := Tryz.isAgg5
  z5 := Tryz.sizeOf5
  v5 := Tryz.zeroValue5
  t9 := Tryz.underlying9
  a9 := Tryz.isAgg9
  z9 := Tryz.sizeOf9
  v9 := Tryz.zeroValue9
  t20 := Tryz.underlying20
  a20 := Tryz.isAgg20
  z20 := Tryz.sizeOf20
  v20 := Tryz.zeroValue20
  t37 := Tryz.underlying22
  a37 := Tryz.isAgg22
  z37 := Tryz.sizeOf22
  v37 := Tryz.zeroValue22
  t46 := Tryz.underlying123
  a46 := Tryz.isAgg123
  z46 := Tryz.sizeOf123
  v46 := Tryz.zeroValue123
  t51 := Tryz.underlying156
  a51 := Tryz.isAgg156
  z51 := Tryz.sizeOf156
  v51 := Tryz.zeroValue156
  t53 := Tryz.underlying132
  a53 := Tryz.isAgg132
  z53 := Tryz.sizeOf132
  v53 := Tryz.zeroValue132
  t171 := Tryz.underlying192
  a171 := Tryz.isAgg192
  z171 := Tryz.sizeOf192
  v171 := Tryz.zeroValue192
  t173 := Tryz.underlying195
  a173 := Tryz.isAgg195
  z173 := Tryz.sizeOf195
  v173 := Tryz.zeroValue195
  t212 := Tryz.underlying198
  a212 := Tryz.isAgg198
  z212 := Tryz.sizeOf198
  v212 := Tryz.zeroValue198
  t213 := Tryz.underlying199
  a213 := Tryz.isAgg199
  z213 := Tryz.sizeOf199
  t232 := Tryz.underlying202
  a232 := Tryz.isAgg202
  z232 := Tryz.sizeOf202
  v232 := Tryz.zeroValue202
  t233 := Tryz.underlying203
  a233 := Tryz.isAgg203
  z233 := Tryz.sizeOf203
  v233 := Tryz.zeroValue203
  g17 := by kernel_rfl
  g18 := by kernel_rfl
  g19 := by kernel_rfl
  i0 := by kernel_rfl
  i2 := by kernel_rfl
  i3 := by kernel_rfl
  i4 := by kernel_rfl
  i5 := by kernel_rfl
  i9 := by kernel_rfl
  i20 := by kernel_rfl
  i37 := by kernel_rfl
  i46 := by kernel_rfl
  i51 := by kernel_rfl
  i53 := by kernel_rfl
  i171 := by kernel_rfl
  i173 := by kernel_rfl
  i212 := by kernel_rfl
  i232 := by kernel_rfl
  i233 := by kernel_rfl
  m17 := by kernel_rfl
  m18 := by kernel_rfl
  m19 := by kernel_rfl }
open Go.RowKit Go.Sort Go.Lib in
/-- internal/strconv.FormatInt: "FormatInt returns the string representation of i in the given base": AT BASE 10: i's decimal numeral, for every int64. The world behind the call: the world before it, new blocks behind the heap, draws. (LAID: no walk: one application.) -/
theorem Tryz.internal_strconv_FormatInt_10 (n : Int) (h0 : -9223372036854775808 ≤ n) (h1 : n ≤ 9223372036854775807) (w : World) (htab : Lib.TabIs Tryz.prog w "internal/strconv.uint64pow10" .u64 Lib.pow10Tab) :
    Calls Tryz.prog 122 #[.int .i64 n, .int .i64 10] w fun e w' => e = .returned (.string ⟨(Lib.itoa n).toArray⟩) ∧ ∃ k os, w' = grow (w.drewN k) os := Any.internal_strconv_FormatInt_10 Tryz.laysM246 n h0 h1 w htab
def Tryz.lays246_ren : Go.Shelf.Ren := ⟨fun | 246 => 122 | 283 => 123 | 284 => 124 | 285 => 125 | 286 => 126 | 129 => 128 | 317 => 127 | 318 => 129 | 319 => 130 | 320 => 131 | 337 => 132 | 338 => 133 | n => n, fun | 2 => 2 | 3 => 3 | 9 => 9 | 4 => 4 | 171 => 192 | 0 => 0 | 53 => 132 | 37 => 22 | 5 => 5 | 173 => 195 | 212 => 198 | 51 => 156 | 20 => 20 | 213 => 199 | 46 => 123 | 232 => 202 | 233 => 203 | n => n, fun | 17 => 7 | 18 => 8 | 19 => 9 | n => n⟩
theorem Tryz.lays246 : Go.Proofs.Lays.n246 Tryz.prog Tryz.lays246_ren := {
  mixed := by kernel_rfl
  f129 := Tryz.func128.trans (congrArg some (by kernel_rfl))
  f246 := Tryz.func122.trans (congrArg some (by kernel_rfl))
  f283 := Tryz.func123.trans (congrArg some (by kernel_rfl))
  f284 := Tryz.func124.trans (congrArg some (by kernel_rfl))
  f285 := Tryz.func125.trans (congrArg some (by kernel_rfl))
  f286 := Tryz.func126.trans (congrArg some (by kernel_rfl))
  f317 := Tryz.func127.trans (congrArg some (by kernel_rfl))
  f318 := Tryz.func129.trans (congrArg some (by kernel_rfl))
  f319 := Tryz.func130.trans (congrArg some (by kernel_rfl))
  f320 := Tryz.func131.trans (congrArg some (by kernel_rfl))
  f337 := Tryz.func132.trans (congrArg some (by kernel_rfl))
  f338 := Tryz.func133.trans (congrArg some (by kernel_rfl))
  t0 := Tryz.underlying0
  a0 := Tryz.isAgg0
  z0 := Tryz.sizeOf0
  v0 := Tryz.zeroValue0
  t2 := Tryz.underlying2
  a2 := Tryz.isAgg2
  z2 := Tryz.sizeOf2
  v2 := Tryz.zeroValue2
  t3 := Tryz.underlying3
  a3 := Tryz.isAgg3
  z3 := Tryz.sizeOf3
  v3 := Tryz.zeroValue3
  t4 := Tryz.underlying4
  a4 := Tryz.isAgg4
  z4 := Tryz.sizeOf4
  v4 := Tryz.zeroValue4
  t5 := Tryz.underlying5
  a5 := Tryz.isAgg5
  z5 := Tryz.sizeOf5
  v5 := Tryz.zeroValue5
  t9 := Tryz.underlying9
  a9 := Tryz.isAgg9
  z9 := Tryz.sizeOf9
  v9 := Tryz.zeroValue9
  t20 := Tryz.underlying20
  a20 := Tryz.isAgg20
  z20 := Tryz.sizeOf20
  v20 := Tryz.zeroValue20
  t37 := Tryz.underlying22
  a37 := Tryz.isAgg22
  z37 := Tryz.sizeOf22
  v37 := Tryz.zeroValue22
  t46 := Tryz.underlying123
  a46 := Tryz.isAgg123
  z46 := Tryz.sizeOf123
  v46 := Tryz.zeroValue123
  t51 := Tryz.underlying156
  a51 := Tryz.isAgg156
  z51 := Tryz.sizeOf156
  v51 := Tryz.zeroValue156
  t53 := Tryz.underlying132
  a53 := Tryz.isAgg132
  z53 := Tryz.sizeOf132
  v53 := Tryz.zeroValue132
  t171 := Tryz.underlying192
  a171 := Tryz.isAgg192
  z171 := Tryz.sizeOf192
  v171 := Tryz.zeroValue192
  t173 := Tryz.underlying195
  a173 := Tryz.isAgg195
  z173 := Tryz.sizeOf195
  v173 := Tryz.zeroValue195
  t212 := Tryz.underlying198
  a212 := Tryz.isAgg198
  z212 := Tryz.sizeOf198
  v212 := Tryz.zeroValue198
  t213 := Tryz.underlying199
  a213 := Tryz.isAgg199
  z213 := Tryz.sizeOf199
  t232 := Tryz.underlying202
  a232 := Tryz.isAgg202
  z232 := Tryz.sizeOf202
  v232 := Tryz.zeroValue202
  t233 := Tryz.underlying203
  a233 := Tryz.isAgg203
  z233 := Tryz.sizeOf203
  v233 := Tryz.zeroValue203
  g17 := by kernel_rfl
  g18 := by kernel_rfl
  g19 := by kernel_rfl }
open Go.RowKit Go.Sort Go.Lib in
/-- THE ROAD WITHOUT THE TABLE: 0 <= i < 100: two constants are read, nothing is laid: no premise on the world, and the world is as it was. (LAID: no walk: one application.) -/
theorem Tryz.internal_strconv_FormatInt_10_small (i : Nat) (hi : i < 100) (w : World) :
    Calls Tryz.prog 122 #[.int .i64 i, .int .i64 10] w fun e w' => e = .returned (.string ⟨(Lib.decDigits i).toArray⟩) ∧ w' = w := Any.internal_strconv_FormatInt_10_small Tryz.lays246 i hi w
def Tryz.laysM243_ren : Go.Shelf.Ren := ⟨fun | 243 => 119 | 246 => 122 | 283 => 123 | 284 => 124 | 285 => 125 | 286 => 126 | 129 => 128 | 317 => 127 | 318 => 129 | 319 => 130 | 320 => 131 | 337 => 132 | 338 => 133 | n => n, fun | 3 => 3 | 9 => 9 | 2 => 2 | 4 => 4 | 171 => 192 | 0 => 0 | 53 => 132 | 37 => 22 | 5 => 5 | 173 => 195 | 212 => 198 | 51 => 156 | 20 => 20 | 213 => 199 | 46 => 123 | 232 => 202 | 233 => 203 | n => n, fun | 17 => 7 | 18 => 8 | 19 => 9 | n => n⟩
theorem Tryz.laysM243 : Go.Proofs.LaysM.n243 Tryz.prog Tryz.laysM243_ren := {
  mixed := by kernel_rfl
  f129 := Tryz.func128.trans (congrArg some (by kernel_rfl))
  f243 := Tryz.func119.trans (congrArg some (by kernel_rfl))
  f246 := Tryz.func122.trans (congrArg some (by kernel_rfl))
  f283 := Tryz.func123.trans (congrArg some (by kernel_rfl))
  f284 := Tryz.func124.trans (congrArg some (by kernel_rfl))
  f285 := Tryz.func125.trans (congrArg some (by kernel_rfl))
  f286 := Tryz.func126.trans (congrArg some (by kernel_rfl))
  f317 := Tryz.func127.trans (congrArg some (by kernel_rfl))
  f318 := Tryz.func129.trans (congrArg some (by kernel_rfl))
  f319 := Tryz.func130.trans (congrArg some (by kernel_rfl))
  f320 := Tryz.func131.trans (congrArg some (by kernel_rfl))
  f337 := Tryz.func132.trans (congrArg some (by kernel_rfl))
  f338 := Tryz.func133.trans (congrArg some (by kernel_rfl))
  t0 := Tryz.underlying0
  a0 := Tryz.isAgg0
  z0 := Tryz.sizeOf0
  v0 := Tryz.zeroValue0
  t2 := Tryz.underlying2
  a2 := Tryz.isAgg2
  z2 := Tryz.sizeOf2
  v2 := Tryz.zeroValue2
  t3 := Tryz.underlying3
  a3 := Tryz.isAgg3
  z3 := Tryz.sizeOf3
  v3 := Tryz.zeroValue3
  t4 := Tryz.underlying4
  a4 := Tryz.isAgg4
  z4 := Tryz.sizeOf4
  v4 := Tryz.zeroValue4
  t5 := Tryz.underlying5
  a5 := Tryz.isAgg5
  z5 := Tryz.sizeOf5
  v5 := Tryz.zeroValue5
  t9 := Tryz.underlying9
  a9 := Tryz.isAgg9
  z9 := Tryz.sizeOf9
  v9 := Tryz.zeroValue9
  t20 := Tryz.underlying20
  a20 := Tryz.isAgg20
  z20 := Tryz.sizeOf20
  v20 := Tryz.zeroValue20
  t37 := Tryz.underlying22
  a37 := Tryz.isAgg22
  z37 := Tryz.sizeOf22
  v37 := Tryz.zeroValue22
  t46 := Tryz.underlying123
  a46 := Tryz.isAgg123
  z46 := Tryz.sizeOf123
  v46 := Tryz.zeroValue123
  t51 := Tryz.underlying156
  a51 := Tryz.isAgg156
  z51 := Tryz.sizeOf156
  v51 := Tryz.zeroValue156
  t53 := Tryz.underlying132
  a53 := Tryz.isAgg132
  z53 := Tryz.sizeOf132
  v53 := Tryz.zeroValue132
  t171 := Tryz.underlying192
  a171 := Tryz.isAgg192
  z171 := Tryz.sizeOf192
  v171 := Tryz.zeroValue192
  t173 := Tryz.underlying195
  a173 := Tryz.isAgg195
  z173 := Tryz.sizeOf195
  v173 := Tryz.zeroValue195
  t212 := Tryz.underlying198
  a212 := Tryz.isAgg198
  z212 := Tryz.sizeOf198
  v212 := Tryz.zeroValue198
  t213 := Tryz.underlying199
  a213 := Tryz.isAgg199
  z213 := Tryz.sizeOf199
  t232 := Tryz.underlying202
  a232 := Tryz.isAgg202
  z232 := Tryz.sizeOf202
  v232 := Tryz.zeroValue202
  t233 := Tryz.underlying203
  a233 := Tryz.isAgg203
  z233 := Tryz.sizeOf203
  v233 := Tryz.zeroValue203
  g17 := by kernel_rfl
  g18 := by kernel_rfl
  g19 := by kernel_rfl
  i0 := by kernel_rfl
  i2 := by kernel_rfl
  i3 := by kernel_rfl
  i4 := by kernel_rfl
  i5 := by kernel_rfl
  i9 := by kernel_rfl
  i20 := by kernel_rfl
  i37 := by kernel_rfl
  i46 := by kernel_rfl
  i51 := by kernel_rfl
  i53 := by kernel_rfl
  i171 := by kernel_rfl
  i173 := by kernel_rfl
  i212 := by kernel_rfl
  i232 := by kernel_rfl
  i233 := by kernel_rfl
  m17 := by kernel_rfl
  m18 := by kernel_rfl
  m19 := by kernel_rfl }
open Go.RowKit Go.Sort Go.Lib in
/-- internal/strconv.Itoa: "Itoa is equivalent to FormatInt(int64(i), 10).": i's decimal numeral, for every int. (LAID: no walk: one application.) -/
theorem Tryz.internal_strconv_Itoa (n : Int) (h0 : -9223372036854775808 ≤ n) (h1 : n ≤ 9223372036854775807) (w : World) (htab : Lib.TabIs Tryz.prog w "internal/strconv.uint64pow10" .u64 Lib.pow10Tab) :
    Calls Tryz.prog 119 #[.int .i64 n] w fun e w' => e = .returned (.string ⟨(Lib.itoa n).toArray⟩) ∧ ∃ k os, w' = grow (w.drewN k) os := Any.internal_strconv_Itoa Tryz.laysM243 n h0 h1 w htab
def Tryz.lays243_ren : Go.Shelf.Ren := ⟨fun | 243 => 119 | 246 => 122 | 283 => 123 | 284 => 124 | 285 => 125 | 286 => 126 | 129 => 128 | 317 => 127 | 318 => 129 | 319 => 130 | 320 => 131 | 337 => 132 | 338 => 133 | n => n, fun | 3 => 3 | 9 => 9 | 2 => 2 | 4 => 4 | 171 => 192 | 0 => 0 | 53 => 132 | 37 => 22 | 5 => 5 | 173 => 195 | 212 => 198 | 51 => 156 | 20 => 20 | 213 => 199 | 46 => 123 | 232 => 202 | 233 => 203 | n => n, fun | 17 => 7 | 18 => 8 | 19 => 9 | n => n⟩
theorem Tryz.lays243 : Go.Proofs.Lays.n243 Tryz.prog Tryz.lays243_ren := {
  mixed := by kernel_rfl
  f129 := Tryz.func128.trans (congrArg some (by kernel_rfl))
  f243 := Tryz.func119.trans (congrArg some (by kernel_rfl))
  f246 := Tryz.func122.trans (congrArg some (by kernel_rfl))
  f283 := Tryz.func123.trans (congrArg some (by kernel_rfl))
  f284 := Tryz.func124.trans (congrArg some (by kernel_rfl))
  f285 := Tryz.func125.trans (congrArg some (by kernel_rfl))
  f286 := Tryz.func126.trans (congrArg some (by kernel_rfl))
  f317 := Tryz.func127.trans (congrArg some (by kernel_rfl))
  f318 := Tryz.func129.trans (congrArg some (by kernel_rfl))
  f319 := Tryz.func130.trans (congrArg some (by kernel_rfl))
  f320 := Tryz.func131.trans (congrArg some (by kernel_rfl))
  f337 := Tryz.func132.trans (congrArg some (by kernel_rfl))
  f338 := Tryz.func133.trans (congrArg some (by kernel_rfl))
  t0 := Tryz.underlying0
  a0 := Tryz.isAgg0
  z0 := Tryz.sizeOf0
  v0 := Tryz.zeroValue0
  t2 := Tryz.underlying2
  a2 := Tryz.isAgg2
  z2 := Tryz.sizeOf2
  v2 := Tryz.zeroValue2
  t3 := Tryz.underlying3
  a3 := Tryz.isAgg3
  z3 := Tryz.sizeOf3
  v3 := Tryz.zeroValue3
  t4 := Tryz.underlying4
  a4 := Tryz.isAgg4
  z4 := Tryz.sizeOf4
  v4 := Tryz.zeroValue4
  t5 := Tryz.underlying5
  a5 := Tryz.isAgg5
  z5 := Tryz.sizeOf5
  v5 := Tryz.zeroValue5
  t9 := Tryz.underlying9
  a9 := Tryz.isAgg9
  z9 := Tryz.sizeOf9
  v9 := Tryz.zeroValue9
  t20 := Tryz.underlying20
  a20 := Tryz.isAgg20
  z20 := Tryz.sizeOf20
  v20 := Tryz.zeroValue20
  t37 := Tryz.underlying22
  a37 := Tryz.isAgg22
  z37 := Tryz.sizeOf22
  v37 := Tryz.zeroValue22
  t46 := Tryz.underlying123
  a46 := Tryz.isAgg123
  z46 := Tryz.sizeOf123
  v46 := Tryz.zeroValue123
  t51 := Tryz.underlying156
  a51 := Tryz.isAgg156
  z51 := Tryz.sizeOf156
  v51 := Tryz.zeroValue156
  t53 := Tryz.underlying132
  a53 := Tryz.isAgg132
  z53 := Tryz.sizeOf132
  v53 := Tryz.zeroValue132
  t171 := Tryz.underlying192
  a171 := Tryz.isAgg192
  z171 := Tryz.sizeOf192
  v171 := Tryz.zeroValue192
  t173 := Tryz.underlying195
  a173 := Tryz.isAgg195
  z173 := Tryz.sizeOf195
  v173 := Tryz.zeroValue195
  t212 := Tryz.underlying198
  a212 := Tryz.isAgg198
  z212 := Tryz.sizeOf198
  v212 := Tryz.zeroValue198
  t213 := Tryz.underlying199
  a213 := Tryz.isAgg199
  z213 := Tryz.sizeOf199
  t232 := Tryz.underlying202
  a232 := Tryz.isAgg202
  z232 := Tryz.sizeOf202
  v232 := Tryz.zeroValue202
  t233 := Tryz.underlying203
  a233 := Tryz.isAgg203
  z233 := Tryz.sizeOf203
  v233 := Tryz.zeroValue203
  g17 := by kernel_rfl
  g18 := by kernel_rfl
  g19 := by kernel_rfl }
open Go.RowKit Go.Sort Go.Lib in
/-- THE ROAD WITHOUT THE TABLE: 0 <= i < 100. (LAID: no walk: one application.) -/
theorem Tryz.internal_strconv_Itoa_small (i : Nat) (hi : i < 100) (w : World) :
    Calls Tryz.prog 119 #[.int .i64 i] w fun e w' => e = .returned (.string ⟨(Lib.decDigits i).toArray⟩) ∧ w' = w := Any.internal_strconv_Itoa_small Tryz.lays243 i hi w
def Tryz.laysM171_ren : Go.Shelf.Ren := ⟨fun | 171 => 114 | 243 => 119 | 246 => 122 | 283 => 123 | 284 => 124 | 285 => 125 | 286 => 126 | 129 => 128 | 317 => 127 | 318 => 129 | 319 => 130 | 320 => 131 | 337 => 132 | 338 => 133 | n => n, fun | 3 => 3 | 9 => 9 | 2 => 2 | 4 => 4 | 171 => 192 | 0 => 0 | 53 => 132 | 37 => 22 | 5 => 5 | 173 => 195 | 212 => 198 | 51 => 156 | 20 => 20 | 213 => 199 | 46 => 123 | 232 => 202 | 233 => 203 | n => n, fun | 17 => 7 | 18 => 8 | 19 => 9 | n => n⟩
theorem Tryz.laysM171 : Go.Proofs.LaysM.n171 Tryz.prog Tryz.laysM171_ren := {
  mixed := by kernel_rfl
  f129 := Tryz.func128.trans (congrArg some (by kernel_rfl))
  f171 := Tryz.func114.trans (congrArg some (by kernel_rfl))
  f243 := Tryz.func119.trans (congrArg some (by kernel_rfl))
  f246 := Tryz.func122.trans (congrArg some (by kernel_rfl))
  f283 := Tryz.func123.trans (congrArg some (by kernel_rfl))
  f284 := Tryz.func124.trans (congrArg some (by kernel_rfl))
  f285 := Tryz.func125.trans (congrArg some (by kernel_rfl))
  f286 := Tryz.func126.trans (congrArg some (by kernel_rfl))
  f317 := Tryz.func127.trans (congrArg some (by kernel_rfl))
  f318 := Tryz.func129.trans (congrArg some (by kernel_rfl))
  f319 := Tryz.func130.trans (congrArg some (by kernel_rfl))
  f320 := Tryz.func131.trans (congrArg some (by kernel_rfl))
  f337 := Tryz.func132.trans (congrArg some (by kernel_rfl))
  f338 := Tryz.func133.trans (congrArg some (by kernel_rfl))
  t0 := Tryz.underlying0
  a0 := Tryz.isAgg0
  z0 := Tryz.sizeOf0
  v0 := Tryz.zeroValue0
  t2 := Tryz.underlying2
  a2 := Tryz.isAgg2
  z2 := Tryz.sizeOf2
  v2 := Tryz.zeroValue2
  t3 := Tryz.underlying3
  a3 := Tryz.isAgg3
  z3 := Tryz.sizeOf3
  v3 := Tryz.zeroValue3
  t4 := Tryz.underlying4
  a4 := Tryz.isAgg4
  z4 := Tryz.sizeOf4
  v4 := Tryz.zeroValue4
  t5 := Tryz.underlying5
  a5 := Tryz.isAgg5
  z5 := Tryz.sizeOf5
  v5 := Tryz.zeroValue5
  t9 := Tryz.underlying9
  a9 := Tryz.isAgg9
  z9 := Tryz.sizeOf9
  v9 := Tryz.zeroValue9
  t20 := Tryz.underlying20
  a20 := Tryz.isAgg20
  z20 := Tryz.sizeOf20
  v20 := Tryz.zeroValue20
  t37 := Tryz.underlying22
  a37 := Tryz.isAgg22
  z37 := Tryz.sizeOf22
  v37 := Tryz.zeroValue22
  t46 := Tryz.underlying123
  a46 := Tryz.isAgg123
  z46 := Tryz.sizeOf123
  v46 := Tryz.zeroValue123
  t51 := Tryz.underlying156
  a51 := Tryz.isAgg156
  z51 := Tryz.sizeOf156
  v51 := Tryz.zeroValue156
  t53 := Tryz.underlying132
  a53 := Tryz.isAgg132
  z53 := Tryz.sizeOf132
  v53 := Tryz.zeroValue132
  t171 := Tryz.underlying192
  a171 := Tryz.isAgg192
  z171 := Tryz.sizeOf192
  v171 := Tryz.zeroValue192
  t173 := Tryz.underlying195
  a173 := Tryz.isAgg195
  z173 := Tryz.sizeOf195
  v173 := Tryz.zeroValue195
  t212 := Tryz.underlying198
  a212 := Tryz.isAgg198
  z212 := Tryz.sizeOf198
  v212 := Tryz.zeroValue198
  t213 := Tryz.underlying199
  a213 := Tryz.isAgg199
  z213 := Tryz.sizeOf199
  t232 := Tryz.underlying202
  a232 := Tryz.isAgg202
  z232 := Tryz.sizeOf202
  v232 := Tryz.zeroValue202
  t233 := Tryz.underlying203
  a233 := Tryz.isAgg203
  z233 := Tryz.sizeOf203
  v233 := Tryz.zeroValue203
  g17 := by kernel_rfl
  g18 := by kernel_rfl
  g19 := by kernel_rfl
  i0 := by kernel_rfl
  i2 := by kernel_rfl
  i3 := by kernel_rfl
  i4 := by kernel_rfl
  i5 := by kernel_rfl
  i9 := by kernel_rfl
  i20 := by kernel_rfl
  i37 := by kernel_rfl
  i46 := by kernel_rfl
  i51 := by kernel_rfl
  i53 := by kernel_rfl
  i171 := by kernel_rfl
  i173 := by kernel_rfl
  i212 := by kernel_rfl
  i232 := by kernel_rfl
  i233 := by kernel_rfl
  m17 := by kernel_rfl
  m18 := by kernel_rfl
  m19 := by kernel_rfl }
open Go.RowKit Go.Sort Go.Lib in
/-- strconv.Itoa: "Itoa is equivalent to FormatInt(int64(i), 10).": i's DECIMAL NUMERAL ('Lib.itoa': a '-' where i is negative, then the digits), FOR EVERY int. The world behind the call: the world before it, new blocks behind the heap (the library's 'var a [24]byte'), draws. (LAID: no walk: one application.) -/
theorem Tryz.strconv_Itoa (n : Int) (h0 : -9223372036854775808 ≤ n) (h1 : n ≤ 9223372036854775807) (w : World) (htab : Lib.TabIs Tryz.prog w "internal/strconv.uint64pow10" .u64 Lib.pow10Tab) :
    Calls Tryz.prog 114 #[.int .i64 n] w fun e w' => e = .returned (.string ⟨(Lib.itoa n).toArray⟩) ∧ ∃ k os, w' = grow (w.drewN k) os := Any.strconv_Itoa Tryz.laysM171 n h0 h1 w htab
def Tryz.lays171_ren : Go.Shelf.Ren := ⟨fun | 171 => 114 | 243 => 119 | 246 => 122 | 283 => 123 | 284 => 124 | 285 => 125 | 286 => 126 | 129 => 128 | 317 => 127 | 318 => 129 | 319 => 130 | 320 => 131 | 337 => 132 | 338 => 133 | n => n, fun | 3 => 3 | 9 => 9 | 2 => 2 | 4 => 4 | 171 => 192 | 0 => 0 | 53 => 132 | 37 => 22 | 5 => 5 | 173 => 195 | 212 => 198 | 51 => 156 | 20 => 20 | 213 => 199 | 46 => 123 | 232 => 202 | 233 => 203 | n => n, fun | 17 => 7 | 18 => 8 | 19 => 9 | n => n⟩
theorem Tryz.lays171 : Go.Proofs.Lays.n171 Tryz.prog Tryz.lays171_ren := {
  mixed := by kernel_rfl
  f129 := Tryz.func128.trans (congrArg some (by kernel_rfl))
  f171 := Tryz.func114.trans (congrArg some (by kernel_rfl))
  f243 := Tryz.func119.trans (congrArg some (by kernel_rfl))
  f246 := Tryz.func122.trans (congrArg some (by kernel_rfl))
  f283 := Tryz.func123.trans (congrArg some (by kernel_rfl))
  f284 := Tryz.func124.trans (congrArg some (by kernel_rfl))
  f285 := Tryz.func125.trans (congrArg some (by kernel_rfl))
  f286 := Tryz.func126.trans (congrArg some (by kernel_rfl))
  f317 := Tryz.func127.trans (congrArg some (by kernel_rfl))
  f318 := Tryz.func129.trans (congrArg some (by kernel_rfl))
  f319 := Tryz.func130.trans (congrArg some (by kernel_rfl))
  f320 := Tryz.func131.trans (congrArg some (by kernel_rfl))
  f337 := Tryz.func132.trans (congrArg some (by kernel_rfl))
  f338 := Tryz.func133.trans (congrArg some (by kernel_rfl))
  t0 := Tryz.underlying0
  a0 := Tryz.isAgg0
  z0 := Tryz.sizeOf0
  v0 := Tryz.zeroValue0
  t2 := Tryz.underlying2
  a2 := Tryz.isAgg2
  z2 := Tryz.sizeOf2
  v2 := Tryz.zeroValue2
  t3 := Tryz.underlying3
  a3 := Tryz.isAgg3
  z3 := Tryz.sizeOf3
  v3 := Tryz.zeroValue3
  t4 := Tryz.underlying4
  a4 := Tryz.isAgg4
  z4 := Tryz.sizeOf4
  v4 := Tryz.zeroValue4
  t5 := Tryz.underlying5
  a5 := Tryz.isAgg5
  z5 := Tryz.sizeOf5
  v5 := Tryz.zeroValue5
  t9 := Tryz.underlying9
  a9 := Tryz.isAgg9
  z9 := Tryz.sizeOf9
  v9 := Tryz.zeroValue9
  t20 := Tryz.underlying20
  a20 := Tryz.isAgg20
  z20 := Tryz.sizeOf20
  v20 := Tryz.zeroValue20
  t37 := Tryz.underlying22
  a37 := Tryz.isAgg22
  z37 := Tryz.sizeOf22
  v37 := Tryz.zeroValue22
  t46 := Tryz.underlying123
  a46 := Tryz.isAgg123
  z46 := Tryz.sizeOf123
  v46 := Tryz.zeroValue123
  t51 := Tryz.underlying156
  a51 := Tryz.isAgg156
  z51 := Tryz.sizeOf156
  v51 := Tryz.zeroValue156
  t53 := Tryz.underlying132
  a53 := Tryz.isAgg132
  z53 := Tryz.sizeOf132
  v53 := Tryz.zeroValue132
  t171 := Tryz.underlying192
  a171 := Tryz.isAgg192
  z171 := Tryz.sizeOf192
  v171 := Tryz.zeroValue192
  t173 := Tryz.underlying195
  a173 := Tryz.isAgg195
  z173 := Tryz.sizeOf195
  v173 := Tryz.zeroValue195
  t212 := Tryz.underlying198
  a212 := Tryz.isAgg198
  z212 := Tryz.sizeOf198
  v212 := Tryz.zeroValue198
  t213 := Tryz.underlying199
  a213 := Tryz.isAgg199
  z213 := Tryz.sizeOf199
  t232 := Tryz.underlying202
  a232 := Tryz.isAgg202
  z232 := Tryz.sizeOf202
  v232 := Tryz.zeroValue202
  t233 := Tryz.underlying203
  a233 := Tryz.isAgg203
  z233 := Tryz.sizeOf203
  v233 := Tryz.zeroValue203
  g17 := by kernel_rfl
  g18 := by kernel_rfl
  g19 := by kernel_rfl }
open Go.RowKit Go.Sort Go.Lib in
/-- THE ROAD WITHOUT THE TABLE: 0 <= i < 100: NO PREMISE ON THE WORLD, AND THE WORLD IS AS IT WAS: a row that keeps its argument in that range need list no table ('laid = []'). (LAID: no walk: one application.) -/
theorem Tryz.strconv_Itoa_small (i : Nat) (hi : i < 100) (w : World) :
    Calls Tryz.prog 114 #[.int .i64 i] w fun e w' => e = .returned (.string ⟨(Lib.decDigits i).toArray⟩) ∧ w' = w := Any.strconv_Itoa_small Tryz.lays171 i hi w
def Tryz.lays217_ren : Go.Shelf.Ren := ⟨fun | 217 => 115 | 266 => 120 | n => n, fun | 9 => 9 | 5 => 5 | 3 => 3 | n => n, fun | n => n⟩
theorem Tryz.lays217 : Go.Proofs.Lays.n217 Tryz.prog Tryz.lays217_ren := {
  mixed := by kernel_rfl
  f217 := Tryz.func115.trans (congrArg some (by kernel_rfl))
  f266 := Tryz.func120.trans (congrArg some (by kernel_rfl))
  t3 := Tryz.underlying3
  a3 := Tryz.isAgg3
  z3 := Tryz.sizeOf3
  v3 := Tryz.zeroValue3
  t5 := Tryz.underlying5
  a5 := Tryz.isAgg5
  z5 := Tryz.sizeOf5
  v5 := Tryz.zeroValue5
  t9 := Tryz.underlying9
  a9 := Tryz.isAgg9
  z9 := Tryz.sizeOf9
  v9 := Tryz.zeroValue9 }
open Go.RowKit Go.Lib in
/-- internal/stringslite.IndexByte (what strings.IndexByte calls): IT RETURNS 'Lib.indexByte s c'; the world is as it was. (LAID: no walk: one application.) -/
theorem Tryz.stringslite_IndexByte (s : ByteArray) (c : Int) (w : World) :
    Calls Tryz.prog 115 #[.string s, .int .u8 c] w fun e w' => e = .returned (.int .i64 (Lib.indexByte s.data.toList c.toNat.toUInt8)) ∧ w' = w := Any.stringslite_IndexByte Tryz.lays217 s c w
def Tryz.lays224_ren : Go.Shelf.Ren := ⟨fun | 224 => 117 | n => n, fun | 3 => 3 | n => n, fun | n => n⟩
theorem Tryz.lays224 : Go.Proofs.Lays.n224 Tryz.prog Tryz.lays224_ren := {
  mixed := by kernel_rfl
  f224 := Tryz.func117.trans (congrArg some (by kernel_rfl))
  t3 := Tryz.underlying3
  a3 := Tryz.isAgg3
  z3 := Tryz.sizeOf3
  v3 := Tryz.zeroValue3 }
open Go.RowKit Go.Lib in
/-- internal/bytealg.Cutover: "Cutover reports the number of failures of IndexByte we should tolerate before switching over to Index. n is the number of bytes processed so far.": on amd64: (n + 16) / 8. (LAID: no walk: one application.) -/
theorem Tryz.bytealg_Cutover (n : Int) (h0 : 0 ≤ n) (h1 : n < 4611686018427387904) (w : World) :
    Calls Tryz.prog 117 #[.int .i64 n] w fun e w' => e = .returned (.int .i64 ((n + 16) / 8)) ∧ w' = w := Any.bytealg_Cutover Tryz.lays224 n h0 h1 w
def Tryz.lays314_ren : Go.Shelf.Ren := ⟨fun | 314 => 121 | n => n, fun | 9 => 9 | 51 => 156 | 3 => 3 | 4 => 4 | 5 => 5 | 46 => 123 | n => n, fun | n => n⟩
theorem Tryz.lays314 : Go.Proofs.Lays.n314 Tryz.prog Tryz.lays314_ren := {
  mixed := by kernel_rfl
  f314 := Tryz.func121.trans (congrArg some (by kernel_rfl))
  t3 := Tryz.underlying3
  a3 := Tryz.isAgg3
  z3 := Tryz.sizeOf3
  v3 := Tryz.zeroValue3
  t4 := Tryz.underlying4
  a4 := Tryz.isAgg4
  z4 := Tryz.sizeOf4
  v4 := Tryz.zeroValue4
  t5 := Tryz.underlying5
  a5 := Tryz.isAgg5
  z5 := Tryz.sizeOf5
  v5 := Tryz.zeroValue5
  t9 := Tryz.underlying9
  a9 := Tryz.isAgg9
  z9 := Tryz.sizeOf9
  v9 := Tryz.zeroValue9
  t46 := Tryz.underlying123
  a46 := Tryz.isAgg123
  z46 := Tryz.sizeOf123
  v46 := Tryz.zeroValue123
  t51 := Tryz.underlying156
  a51 := Tryz.isAgg156
  z51 := Tryz.sizeOf156
  v51 := Tryz.zeroValue156 }
open Go.RowKit Go.Lib in
/-- hashStr: "returns the hash and the appropriate multiplicative factor for use in Rabin-Karp algorithm": THE HASH OF ALL OF sep, AND 16777619 ^ len(sep), both in uint32. (LAID: no walk: one application.) -/
theorem Tryz.bytealg_hashStr (sep : ByteArray) (hs : sep.size < 4294967281) (w : World) :
    Calls Tryz.prog 121 #[.string sep] w fun e w' => e = .returned (.tuple #[.int .u32 (RK.H sep.data.toList % 4294967296), .int .u32 (16777619 ^ sep.size % 4294967296)]) ∧ w' = w := Any.bytealg_hashStr Tryz.lays314 sep hs w
def Tryz.lays267_ren : Go.Shelf.Ren := ⟨fun | 267 => 118 | 314 => 121 | n => n, fun | 9 => 9 | 3 => 3 | 146 => 189 | 51 => 156 | 4 => 4 | 5 => 5 | 46 => 123 | n => n, fun | n => n⟩
theorem Tryz.lays267 : Go.Proofs.Lays.n267 Tryz.prog Tryz.lays267_ren := {
  mixed := by kernel_rfl
  f267 := Tryz.func118.trans (congrArg some (by kernel_rfl))
  f314 := Tryz.func121.trans (congrArg some (by kernel_rfl))
  t3 := Tryz.underlying3
  a3 := Tryz.isAgg3
  z3 := Tryz.sizeOf3
  v3 := Tryz.zeroValue3
  t4 := Tryz.underlying4
  a4 := Tryz.isAgg4
  z4 := Tryz.sizeOf4
  v4 := Tryz.zeroValue4
  t5 := Tryz.underlying5
  a5 := Tryz.isAgg5
  z5 := Tryz.sizeOf5
  v5 := Tryz.zeroValue5
  t9 := Tryz.underlying9
  a9 := Tryz.isAgg9
  z9 := Tryz.sizeOf9
  v9 := Tryz.zeroValue9
  t46 := Tryz.underlying123
  a46 := Tryz.isAgg123
  z46 := Tryz.sizeOf123
  v46 := Tryz.zeroValue123
  t51 := Tryz.underlying156
  a51 := Tryz.isAgg156
  z51 := Tryz.sizeOf156
  v51 := Tryz.zeroValue156
  t146 := Tryz.underlying189
  a146 := Tryz.isAgg189
  z146 := Tryz.sizeOf189
  v146 := Tryz.zeroValue189 }
open Go.RowKit Go.Lib in
theorem Tryz.bytealg_IndexRabinKarp (s sep : ByteArray) (h1 : 1 ≤ sep.size) (h2 : sep.size ≤ s.size) (hs : s.size < 4294967281) (w : World) :
    Calls Tryz.prog 118 #[.string s, .string sep] w fun e w' => e = .returned (.int .i64 (Lib.index s.data.toList sep.data.toList)) ∧ w' = w := Any.bytealg_IndexRabinKarp Tryz.lays267 s sep h1 h2 hs w
def Tryz.lays219_ren : Go.Shelf.Ren := ⟨fun | 219 => 109 | 217 => 115 | 225 => 116 | 224 => 117 | 267 => 118 | 266 => 120 | 314 => 121 | n => n, fun | 9 => 9 | 3 => 3 | 4 => 4 | 5 => 5 | 46 => 123 | 146 => 189 | 51 => 156 | n => n, fun | 1 => 6 | n => n⟩
theorem Tryz.lays219 : Go.Proofs.Lays.n219 Tryz.prog Tryz.lays219_ren := {
  mixed := by kernel_rfl
  f217 := Tryz.func115.trans (congrArg some (by kernel_rfl))
  f219 := Tryz.func109.trans (congrArg some (by kernel_rfl))
  f224 := Tryz.func117.trans (congrArg some (by kernel_rfl))
  f225 := Tryz.func116.trans (congrArg some (by kernel_rfl))
  f266 := Tryz.func120.trans (congrArg some (by kernel_rfl))
  f267 := Tryz.func118.trans (congrArg some (by kernel_rfl))
  f314 := Tryz.func121.trans (congrArg some (by kernel_rfl))
  t3 := Tryz.underlying3
  a3 := Tryz.isAgg3
  z3 := Tryz.sizeOf3
  v3 := Tryz.zeroValue3
  t4 := Tryz.underlying4
  a4 := Tryz.isAgg4
  z4 := Tryz.sizeOf4
  v4 := Tryz.zeroValue4
  t5 := Tryz.underlying5
  a5 := Tryz.isAgg5
  z5 := Tryz.sizeOf5
  v5 := Tryz.zeroValue5
  t9 := Tryz.underlying9
  a9 := Tryz.isAgg9
  z9 := Tryz.sizeOf9
  v9 := Tryz.zeroValue9
  t46 := Tryz.underlying123
  a46 := Tryz.isAgg123
  z46 := Tryz.sizeOf123
  v46 := Tryz.zeroValue123
  t51 := Tryz.underlying156
  a51 := Tryz.isAgg156
  z51 := Tryz.sizeOf156
  v51 := Tryz.zeroValue156
  t146 := Tryz.underlying189
  a146 := Tryz.isAgg189
  z146 := Tryz.sizeOf189
  v146 := Tryz.zeroValue189
  g1 := by kernel_rfl }
open Go.RowKit Go.Lib in
/-- internal/stringslite.Index (what strings.Index calls) AT A substr OF ONE BYTE c: IT RETURNS 'Lib.indexByte s c'; the world is as it was. (LAID: no walk: one application.) -/
theorem Tryz.stringslite_Index_one (s : ByteArray) (c : UInt8) (w : World) :
    Calls Tryz.prog 109 #[.string s, .string ⟨#[c]⟩] w fun e w' => e = .returned (.int .i64 (Lib.indexByte s.data.toList c)) ∧ w' = w := Any.stringslite_Index_one Tryz.lays219 s c w
open Go.RowKit Go.Lib in
/-- internal/stringslite.Index (what strings.Index calls) AT A substr OF WHATEVER LENGTH: IT RETURNS 'Lib.index s substr'; the world is as it was. 'm': what internal/bytealg.MaxLen holds: whatever. (LAID: no walk: one application.) -/
theorem Tryz.stringslite_Index (s sub : ByteArray) (m : Int) (w : World) (hs : s.size < 4294967281) (hm : w.cell? ⟨6, 0, none⟩ = some (.int .i64 m)) :
    Calls Tryz.prog 109 #[.string s, .string sub] w fun e w' => e = .returned (.int .i64 (Lib.index s.data.toList sub.data.toList)) ∧ w' = w := Any.stringslite_Index Tryz.lays219 s sub m w hs hm
def Tryz.lays143_ren : Go.Shelf.Ren := ⟨fun | 143 => 100 | 219 => 109 | 217 => 115 | 225 => 116 | 224 => 117 | 267 => 118 | 266 => 120 | 314 => 121 | n => n, fun | 9 => 9 | 3 => 3 | 4 => 4 | 5 => 5 | 46 => 123 | 146 => 189 | 51 => 156 | n => n, fun | 1 => 6 | n => n⟩
theorem Tryz.lays143 : Go.Proofs.Lays.n143 Tryz.prog Tryz.lays143_ren := {
  mixed := by kernel_rfl
  f143 := Tryz.func100.trans (congrArg some (by kernel_rfl))
  f217 := Tryz.func115.trans (congrArg some (by kernel_rfl))
  f219 := Tryz.func109.trans (congrArg some (by kernel_rfl))
  f224 := Tryz.func117.trans (congrArg some (by kernel_rfl))
  f225 := Tryz.func116.trans (congrArg some (by kernel_rfl))
  f266 := Tryz.func120.trans (congrArg some (by kernel_rfl))
  f267 := Tryz.func118.trans (congrArg some (by kernel_rfl))
  f314 := Tryz.func121.trans (congrArg some (by kernel_rfl))
  t3 := Tryz.underlying3
  a3 := Tryz.isAgg3
  z3 := Tryz.sizeOf3
  v3 := Tryz.zeroValue3
  t4 := Tryz.underlying4
  a4 := Tryz.isAgg4
  z4 := Tryz.sizeOf4
  v4 := Tryz.zeroValue4
  t5 := Tryz.underlying5
  a5 := Tryz.isAgg5
  z5 := Tryz.sizeOf5
  v5 := Tryz.zeroValue5
  t9 := Tryz.underlying9
  a9 := Tryz.isAgg9
  z9 := Tryz.sizeOf9
  v9 := Tryz.zeroValue9
  t46 := Tryz.underlying123
  a46 := Tryz.isAgg123
  z46 := Tryz.sizeOf123
  v46 := Tryz.zeroValue123
  t51 := Tryz.underlying156
  a51 := Tryz.isAgg156
  z51 := Tryz.sizeOf156
  v51 := Tryz.zeroValue156
  t146 := Tryz.underlying189
  a146 := Tryz.isAgg189
  z146 := Tryz.sizeOf189
  v146 := Tryz.zeroValue189
  g1 := by kernel_rfl }
open Go.RowKit Go.Lib in
/-- strings.Index: "Index returns the index of the first instance of substr in s, or -1 if substr is not present in s.": AT A substr OF ONE BYTE c: IT RETURNS 'Lib.indexByte s c'; the world is as it was. (LAID: no walk: one application.) -/
theorem Tryz.strings_Index_one (s : ByteArray) (c : UInt8) (w : World) :
    Calls Tryz.prog 100 #[.string s, .string ⟨#[c]⟩] w fun e w' => e = .returned (.int .i64 (Lib.indexByte s.data.toList c)) ∧ w' = w := Any.strings_Index_one Tryz.lays143 s c w
open Go.RowKit Go.Lib in
/-- strings.Index: "Index returns the index of the first instance of substr in s, or -1 if substr is not present in s.": IT RETURNS 'Lib.index s substr'; the world is as it was. (LAID: no walk: one application.) -/
theorem Tryz.strings_Index (s sub : ByteArray) (m : Int) (w : World) (hs : s.size < 4294967281) (hm : w.cell? ⟨6, 0, none⟩ = some (.int .i64 m)) :
    Calls Tryz.prog 100 #[.string s, .string sub] w fun e w' => e = .returned (.int .i64 (Lib.index s.data.toList sub.data.toList)) ∧ w' = w := Any.strings_Index Tryz.lays143 s sub m w hs hm
def Tryz.laysM219_ren : Go.Shelf.Ren := ⟨fun | 219 => 109 | 217 => 115 | 225 => 116 | 224 => 117 | 267 => 118 | 266 => 120 | 314 => 121 | n => n, fun | 9 => 9 | 3 => 3 | 4 => 4 | 5 => 5 | 46 => 123 | 146 => 189 | 51 => 156 | n => n, fun | 1 => 6 | n => n⟩
theorem Tryz.laysM219 : Go.Proofs.LaysM.n219 Tryz.prog Tryz.laysM219_ren := {
  mixed := by kernel_rfl
  f217 := Tryz.func115.trans (congrArg some (by kernel_rfl))
  f219 := Tryz.func109.trans (congrArg some (by kernel_rfl))
  f224 := Tryz.func117.trans (congrArg some (by kernel_rfl))
  f225 := Tryz.func116.trans (congrArg some (by kernel_rfl))
  f266 := Tryz.func120.trans (congrArg some (by kernel_rfl))
  f267 := Tryz.func118.trans (congrArg some (by kernel_rfl))
  f314 := Tryz.func121.trans (congrArg some (by kernel_rfl))
  t3 := Tryz.underlying3
  a3 := Tryz.isAgg3
  z3 := Tryz.sizeOf3
  v3 := Tryz.zeroValue3
  t4 := Tryz.underlying4
  a4 := Tryz.isAgg4
  z4 := Tryz.sizeOf4
  v4 := Tryz.zeroValue4
  t5 := Tryz.underlying5
  a5 := Tryz.isAgg5
  z5 := Tryz.sizeOf5
  v5 := Tryz.zeroValue5
  t9 := Tryz.underlying9
  a9 := Tryz.isAgg9
  z9 := Tryz.sizeOf9
  v9 := Tryz.zeroValue9
  t46 := Tryz.underlying123
  a46 := Tryz.isAgg123
  z46 := Tryz.sizeOf123
  v46 := Tryz.zeroValue123
  t51 := Tryz.underlying156
  a51 := Tryz.isAgg156
  z51 := Tryz.sizeOf156
  v51 := Tryz.zeroValue156
  t146 := Tryz.underlying189
  a146 := Tryz.isAgg189
  z146 := Tryz.sizeOf189
  v146 := Tryz.zeroValue189
  g1 := by kernel_rfl
  i3 := by kernel_rfl
  i4 := by kernel_rfl
  i5 := by kernel_rfl
  i9 := by kernel_rfl
  i46 := by kernel_rfl
  i51 := by kernel_rfl
  i146 := by kernel_rfl
  m1 := by kernel_rfl
  s1_3 := fun w h => Go.Proofs.cell_of_shapedOpen_int (zero := #[.int .i64 0]) (t := 3) h (of_decide_eq_true (by kernel_rfl)) (by kernel_rfl) rfl (by kernel_rfl) (by kernel_rfl) Tryz.underlying3 }
open Go.RowKit Go.Lib in
theorem Tryz.stringslite_Index_shaped (s sub : ByteArray) (w : World) (h : w.ShapedOpen Tryz.prog) (hs : s.size < 4294967281) :
    Calls Tryz.prog 109 #[.string s, .string sub] w fun e w' => e = .returned (.int .i64 (Lib.index s.data.toList sub.data.toList)) ∧ w' = w := Any.stringslite_Index_shaped Tryz.laysM219 s sub w h hs
def Tryz.laysM143_ren : Go.Shelf.Ren := ⟨fun | 143 => 100 | 219 => 109 | 217 => 115 | 225 => 116 | 224 => 117 | 267 => 118 | 266 => 120 | 314 => 121 | n => n, fun | 9 => 9 | 3 => 3 | 4 => 4 | 5 => 5 | 46 => 123 | 146 => 189 | 51 => 156 | n => n, fun | 1 => 6 | n => n⟩
theorem Tryz.laysM143 : Go.Proofs.LaysM.n143 Tryz.prog Tryz.laysM143_ren := {
  mixed := by kernel_rfl
  f143 := Tryz.func100.trans (congrArg some (by kernel_rfl))
  f217 := Tryz.func115.trans (congrArg some (by kernel_rfl))
  f219 := Tryz.func109.trans (congrArg some (by kernel_rfl))
  f224 := Tryz.func117.trans (congrArg some (by kernel_rfl))
  f225 := Tryz.func116.trans (congrArg some (by kernel_rfl))
  f266 := Tryz.func120.trans (congrArg some (by kernel_rfl))
  f267 := Tryz.func118.trans (congrArg some (by kernel_rfl))
  f314 := Tryz.func121.trans (congrArg some (by kernel_rfl))
  t3 := Tryz.underlying3
  a3 := Tryz.isAgg3
  z3 := Tryz.sizeOf3
  v3 := Tryz.zeroValue3
  t4 := Tryz.underlying4
  a4 := Tryz.isAgg4
  z4 := Tryz.sizeOf4
  v4 := Tryz.zeroValue4
  t5 := Tryz.underlying5
  a5 := Tryz.isAgg5
  z5 := Tryz.sizeOf5
  v5 := Tryz.zeroValue5
  t9 := Tryz.underlying9
  a9 := Tryz.isAgg9
  z9 := Tryz.sizeOf9
  v9 := Tryz.zeroValue9
  t46 := Tryz.underlying123
  a46 := Tryz.isAgg123
  z46 := Tryz.sizeOf123
  v46 := Tryz.zeroValue123
  t51 := Tryz.underlying156
  a51 := Tryz.isAgg156
  z51 := Tryz.sizeOf156
  v51 := Tryz.zeroValue156
  t146 := Tryz.underlying189
  a146 := Tryz.isAgg189
  z146 := Tryz.sizeOf189
  v146 := Tryz.zeroValue189
  g1 := by kernel_rfl
  i3 := by kernel_rfl
  i4 := by kernel_rfl
  i5 := by kernel_rfl
  i9 := by kernel_rfl
  i46 := by kernel_rfl
  i51 := by kernel_rfl
  i146 := by kernel_rfl
  m1 := by kernel_rfl
  s1_3 := fun w h => Go.Proofs.cell_of_shapedOpen_int (zero := #[.int .i64 0]) (t := 3) h (of_decide_eq_true (by kernel_rfl)) (by kernel_rfl) rfl (by kernel_rfl) (by kernel_rfl) Tryz.underlying3 }
open Go.RowKit Go.Lib in
theorem Tryz.strings_Index_shaped (s sub : ByteArray) (w : World) (h : w.ShapedOpen Tryz.prog) (hs : s.size < 4294967281) :
    Calls Tryz.prog 100 #[.string s, .string sub] w fun e w' => e = .returned (.int .i64 (Lib.index s.data.toList sub.data.toList)) ∧ w' = w := Any.strings_Index_shaped Tryz.laysM143 s sub w h hs
def Tryz.lays157_ren : Go.Shelf.Ren := ⟨fun | 157 => 76 | 229 => 93 | 199 => 94 | 261 => 101 | 311 => 110 | 312 => 111 | n => n, fun | 9 => 9 | 31 => 50 | 3 => 3 | 5 => 5 | 4 => 4 | 119 => 144 | 0 => 0 | 40 => 120 | 152 => 153 | 21 => 21 | 154 => 155 | 51 => 156 | 141 => 158 | 196 => 167 | 193 => 164 | 198 => 170 | 49 => 168 | 194 => 165 | 201 => 173 | 226 => 183 | 46 => 123 | 227 => 184 | n => n, fun | 0 => 0 | 6 => 1 | n => n⟩
theorem Tryz.lays157 : Go.Proofs.Lays.n157 Tryz.prog Tryz.lays157_ren := {
  mixed := by kernel_rfl
  f157 := Tryz.func76.trans (congrArg some (by kernel_rfl))
  f199 := Tryz.func94.trans (congrArg some (by kernel_rfl))
  f229 := Tryz.func93.trans (congrArg some (by kernel_rfl))
  f261 := Tryz.func101.trans (congrArg some (by kernel_rfl))
  f311 := Tryz.func110.trans (congrArg some (by kernel_rfl))
  f312 := Tryz.func111.trans (congrArg some (by kernel_rfl))
  t0 := Tryz.underlying0
  a0 := Tryz.isAgg0
  z0 := Tryz.sizeOf0
  v0 := Tryz.zeroValue0
  t3 := Tryz.underlying3
  a3 := Tryz.isAgg3
  z3 := Tryz.sizeOf3
  v3 := Tryz.zeroValue3
  t4 := Tryz.underlying4
  a4 := Tryz.isAgg4
  z4 := Tryz.sizeOf4
  v4 := Tryz.zeroValue4
  t5 := Tryz.underlying5
  a5 := Tryz.isAgg5
  z5 := Tryz.sizeOf5
  v5 := Tryz.zeroValue5
  t9 := Tryz.underlying9
  a9 := Tryz.isAgg9
  z9 := Tryz.sizeOf9
  v9 := Tryz.zeroValue9
  t21 := Tryz.underlying21
  a21 := Tryz.isAgg21
  z21 := Tryz.sizeOf21
  v21 := Tryz.zeroValue21
  t31 := Tryz.underlying50
  a31 := Tryz.isAgg50
  z31 := Tryz.sizeOf50
  v31 := Tryz.zeroValue50
  t40 := Tryz.underlying120
  a40 := Tryz.isAgg120
  z40 := Tryz.sizeOf120
  v40 := Tryz.zeroValue120
  t46 := Tryz.underlying123
  a46 := Tryz.isAgg123
  z46 := Tryz.sizeOf123
  v46 := Tryz.zeroValue123
  t49 := Tryz.underlying168
  a49 := Tryz.isAgg168
  z49 := Tryz.sizeOf168
  v49 := Tryz.zeroValue168
  t51 := Tryz.underlying156
  a51 := Tryz.isAgg156
  z51 := Tryz.sizeOf156
  v51 := Tryz.zeroValue156
  t119 := Tryz.underlying144
  a119 := Tryz.isAgg144
  z119 := Tryz.sizeOf144
  t141 := Tryz.underlying158
  a141 := Tryz.isAgg158
  z141 := Tryz.sizeOf158
  v141 := Tryz.zeroValue158
  t152 := Tryz.underlying153
  a152 := Tryz.isAgg153
  z152 := Tryz.sizeOf153
  v152 := Tryz.zeroValue153
  t154 := Tryz.underlying155
  a154 := Tryz.isAgg155
  z154 := Tryz.sizeOf155
  v154 := Tryz.zeroValue155
  t193 := Tryz.underlying164
  a193 := Tryz.isAgg164
  z193 := Tryz.sizeOf164
  v193 := Tryz.zeroValue164
  t194 := Tryz.underlying165
  a194 := Tryz.isAgg165
  z194 := Tryz.sizeOf165
  v194 := Tryz.zeroValue165
  t196 := Tryz.underlying167
  a196 := Tryz.isAgg167
  z196 := Tryz.sizeOf167
  v196 := Tryz.zeroValue167
  t198 := Tryz.underlying170
  a198 := Tryz.isAgg170
  z198 := Tryz.sizeOf170
  v198 := Tryz.zeroValue170
  t201 := Tryz.underlying173
  a201 := Tryz.isAgg173
  z201 := Tryz.sizeOf173
  v201 := Tryz.zeroValue173
  t226 := Tryz.underlying183
  a226 := Tryz.isAgg183
  z226 := Tryz.sizeOf183
  v226 := Tryz.zeroValue183
  t227 := Tryz.underlying184
  a227 := Tryz.isAgg184
  z227 := Tryz.sizeOf184
  v227 := Tryz.zeroValue184
  g0 := by kernel_rfl
  g6 := by kernel_rfl }
open Go.RowKit Go.Lib in
/-- strings.Fields, the table by 'Lib.TabIs' (as strings.TrimSpace's contract). 'hg': the table's number, by its name: at a dump 'by kernel_rfl'. (LAID: no walk: one application.) -/
theorem Tryz.strings_Fields (s : ByteArray) (w : World) (hs : s.size < 4294967281) (hascii : ∀ (j : Nat) b, s.data.toList[j]? = some b → b.toNat < 128) (htab : Lib.TabIs Tryz.prog w "strings.asciiSpace" .u8 Lib.asciiSpaceTab) :
    Calls Tryz.prog 76 #[.string s] w fun e w' =>
      e = .returned (.slice (some ⟨w.heap.size, 0, none⟩) (Lib.fields s.data.toList).length (Lib.fields s.data.toList).length) ∧ w' = w.alloc (.cells ((Lib.fields s.data.toList).map fun l => Value.string ⟨l.toArray⟩).toArray 9) := Any.strings_Fields Tryz.lays157 (by kernel_rfl) (by kernel_rfl) s w hs hascii htab
def Tryz.laysM157_ren : Go.Shelf.Ren := ⟨fun | 157 => 76 | 229 => 93 | 199 => 94 | 261 => 101 | 311 => 110 | 312 => 111 | n => n, fun | 9 => 9 | 31 => 50 | 3 => 3 | 5 => 5 | 4 => 4 | 119 => 144 | 0 => 0 | 40 => 120 | 152 => 153 | 21 => 21 | 154 => 155 | 51 => 156 | 141 => 158 | 196 => 167 | 193 => 164 | 198 => 170 | 49 => 168 | 194 => 165 | 201 => 173 | 226 => 183 | 46 => 123 | 227 => 184 | n => n, fun | 0 => 0 | 6 => 1 | n => n⟩
theorem Tryz.laysM157 : Go.Proofs.LaysM.n157 Tryz.prog Tryz.laysM157_ren := {
  mixed := by kernel_rfl
  f157 := Tryz.func76.trans (congrArg some (by kernel_rfl))
  f199 := Tryz.func94.trans (congrArg some (by kernel_rfl))
  f229 := Tryz.func93.trans (congrArg some (by kernel_rfl))
  f261 := Tryz.func101.trans (congrArg some (by kernel_rfl))
  f311 := Tryz.func110.trans (congrArg some (by kernel_rfl))
  f312 := Tryz.func111.trans (congrArg some (by kernel_rfl))
  t0 := Tryz.underlying0
  a0 := Tryz.isAgg0
  z0 := Tryz.sizeOf0
  v0 := Tryz.zeroValue0
  t3 := Tryz.underlying3
  a3 := Tryz.isAgg3
  z3 := Tryz.sizeOf3
  v3 := Tryz.zeroValue3
  t4 := Tryz.underlying4
  a4 := Tryz.isAgg4
  z4 := Tryz.sizeOf4
  v4 := Tryz.zeroValue4
  t5 := Tryz.underlying5
  a5 := Tryz.isAgg5
  z5 := Tryz.sizeOf5
  v5 := Tryz.zeroValue5
  t9 := Tryz.underlying9
  a9 := Tryz.isAgg9
  z9 := Tryz.sizeOf9
  v9 := Tryz.zeroValue9
  t21 := Tryz.underlying21
  a21 := Tryz.isAgg21
  z21 := Tryz.sizeOf21
  v21 := Tryz.zeroValue21
  t31 := Tryz.underlying50
  a31 := Tryz.isAgg50
  z31 := Tryz.sizeOf50
  v31 := Tryz.zeroValue50
  t40 := Tryz.underlying120
  a40 := Tryz.isAgg120
  z40 := Tryz.sizeOf120
  v40 := Tryz.zeroValue120
  t46 := Tryz.underlying123
  a46 := Tryz.isAgg123
  z46 := Tryz.sizeOf123
  v46 := Tryz.zeroValue123
  t49 := Tryz.underlying168
  a49 := Tryz.isAgg168
  z49 := Tryz.sizeOf168
  v49 := Tryz.zeroValue168
  t51 := Tryz.underlying156
  a51 := Tryz.isAgg156
  z51 := Tryz.sizeOf156
  v51 := Tryz.zeroValue156
  t119 := Tryz.underlying144
  a119 := Tryz.isAgg144
  z119 := Tryz.sizeOf144
  t141 := Tryz.underlying158
  a141 := Tryz.isAgg158
  z141 := Tryz.sizeOf158
  v141 := Tryz.zeroValue158
  t152 := Tryz.underlying153
  a152 := Tryz.isAgg153
  z152 := Tryz.sizeOf153
  v152 := Tryz.zeroValue153
  t154 := Tryz.underlying155
  a154 := Tryz.isAgg155
  z154 := Tryz.sizeOf155
  v154 := Tryz.zeroValue155
  t193 := Tryz.underlying164
  a193 := Tryz.isAgg164
  z193 := Tryz.sizeOf164
  v193 := Tryz.zeroValue164
  t194 := Tryz.underlying165
  a194 := Tryz.isAgg165
  z194 := Tryz.sizeOf165
  v194 := Tryz.zeroValue165
  t196 := Tryz.underlying167
  a196 := Tryz.isAgg167
  z196 := Tryz.sizeOf167
  v196 := Tryz.zeroValue167
  t198 := Tryz.underlying170
  a198 := Tryz.isAgg170
  z198 := Tryz.sizeOf170
  v198 := Tryz.zeroValue170
  t201 := Tryz.underlying173
  a201 := Tryz.isAgg173
  z201 := Tryz.sizeOf173
  v201 := Tryz.zeroValue173
  t226 := Tryz.underlying183
  a226 := Tryz.isAgg183
  z226 := Tryz.sizeOf183
  v226 := Tryz.zeroValue183
  t227 := Tryz.underlying184
  a227 := Tryz.isAgg184
  z227 := Tryz.sizeOf184
  v227 := Tryz.zeroValue184
  g0 := by kernel_rfl
  g6 := by kernel_rfl
  i0 := by kernel_rfl
  i3 := by kernel_rfl
  i4 := by kernel_rfl
  i5 := by kernel_rfl
  i9 := by kernel_rfl
  i21 := by kernel_rfl
  i31 := by kernel_rfl
  i40 := by kernel_rfl
  i46 := by kernel_rfl
  i49 := by kernel_rfl
  i51 := by kernel_rfl
  i141 := by kernel_rfl
  i152 := by kernel_rfl
  i154 := by kernel_rfl
  i193 := by kernel_rfl
  i194 := by kernel_rfl
  i196 := by kernel_rfl
  i198 := by kernel_rfl
  i201 := by kernel_rfl
  i226 := by kernel_rfl
  i227 := by kernel_rfl
  m0 := by kernel_rfl
  m6 := by kernel_rfl }
open Go.RowKit Go.Lib in
/-- strings.Fields on ASCII bytes. (The table: 'Lib.TabIs', as strings.TrimSpace's contract asks it.) (LAID: no walk: one application.) -/
theorem Tryz.strings_Fields_laid (s : ByteArray) (w : World) (hs : s.size < 4294967281) (hascii : ∀ (j : Nat) b, s.data.toList[j]? = some b → b.toNat < 128) (htab : Lib.TabIs Tryz.prog w "strings.asciiSpace" .u8 Lib.asciiSpaceTab) :
    Calls Tryz.prog 76 #[.string s] w fun e w' =>
      e = .returned (.slice (some ⟨w.heap.size, 0, none⟩) (Lib.fields s.data.toList).length (Lib.fields s.data.toList).length) ∧ w' = w.alloc (.cells ((Lib.fields s.data.toList).map fun l => Value.string ⟨l.toArray⟩).toArray 9) := Any.strings_Fields_laid Tryz.laysM157 s w hs hascii htab
def Tryz.lays199_ren : Go.Shelf.Ren := ⟨fun | 199 => 94 | 261 => 101 | 311 => 110 | 312 => 111 | n => n, fun | 21 => 21 | 4 => 4 | 51 => 156 | 141 => 158 | 0 => 0 | 196 => 167 | 193 => 164 | 3 => 3 | 198 => 170 | 49 => 168 | 194 => 165 | 201 => 173 | 226 => 183 | 46 => 123 | 227 => 184 | n => n, fun | 6 => 1 | n => n⟩
theorem Tryz.lays199 : Go.Proofs.Lays.n199 Tryz.prog Tryz.lays199_ren := {
  mixed := by kernel_rfl
  f199 := Tryz.func94.trans (congrArg some (by kernel_rfl))
  f261 := Tryz.func101.trans (congrArg some (by kernel_rfl))
  f311 := Tryz.func110.trans (congrArg some (by kernel_rfl))
  f312 := Tryz.func111.trans (congrArg some (by kernel_rfl))
  t0 := Tryz.underlying0
  a0 := Tryz.isAgg0
  z0 := Tryz.sizeOf0
  v0 := Tryz.zeroValue0
  t3 := Tryz.underlying3
  a3 := Tryz.isAgg3
  z3 := Tryz.sizeOf3
  v3 := Tryz.zeroValue3
  t4 := Tryz.underlying4
  a4 := Tryz.isAgg4
  z4 := Tryz.sizeOf4
  v4 := Tryz.zeroValue4
  t21 := Tryz.underlying21
  a21 := Tryz.isAgg21
  z21 := Tryz.sizeOf21
  v21 := Tryz.zeroValue21
  t46 := Tryz.underlying123
  a46 := Tryz.isAgg123
  z46 := Tryz.sizeOf123
  v46 := Tryz.zeroValue123
  t49 := Tryz.underlying168
  a49 := Tryz.isAgg168
  z49 := Tryz.sizeOf168
  v49 := Tryz.zeroValue168
  t51 := Tryz.underlying156
  a51 := Tryz.isAgg156
  z51 := Tryz.sizeOf156
  v51 := Tryz.zeroValue156
  t141 := Tryz.underlying158
  a141 := Tryz.isAgg158
  z141 := Tryz.sizeOf158
  v141 := Tryz.zeroValue158
  t193 := Tryz.underlying164
  a193 := Tryz.isAgg164
  z193 := Tryz.sizeOf164
  v193 := Tryz.zeroValue164
  t194 := Tryz.underlying165
  a194 := Tryz.isAgg165
  z194 := Tryz.sizeOf165
  v194 := Tryz.zeroValue165
  t196 := Tryz.underlying167
  a196 := Tryz.isAgg167
  z196 := Tryz.sizeOf167
  v196 := Tryz.zeroValue167
  t198 := Tryz.underlying170
  a198 := Tryz.isAgg170
  z198 := Tryz.sizeOf170
  v198 := Tryz.zeroValue170
  t201 := Tryz.underlying173
  a201 := Tryz.isAgg173
  z201 := Tryz.sizeOf173
  v201 := Tryz.zeroValue173
  t226 := Tryz.underlying183
  a226 := Tryz.isAgg183
  z226 := Tryz.sizeOf183
  v226 := Tryz.zeroValue183
  t227 := Tryz.underlying184
  a227 := Tryz.isAgg184
  z227 := Tryz.sizeOf184
  v227 := Tryz.zeroValue184
  g6 := by kernel_rfl }
open Go.RowKit Go.Lib in
theorem Tryz.unicode_IsSpace (r : Int) (w : World) (h0 : 0 ≤ r) (h : r ≤ 255) :
    Calls Tryz.prog 94 #[.int .i32 r] w fun e w' => e = .returned (.bool (Lib.isSpaceL r)) ∧ w' = w := Any.unicode_IsSpace Tryz.lays199 r w h0 h
def Tryz.lays197_ren : Go.Shelf.Ren := ⟨fun | 197 => 97 | 260 => 108 | n => n, fun | 9 => 9 | 21 => 21 | 3 => 3 | 4 => 4 | 5 => 5 | 105 => 103 | 119 => 144 | 0 => 0 | 46 => 123 | 139 => 181 | 138 => 180 | n => n, fun | 3 => 4 | 4 => 5 | n => n⟩
theorem Tryz.lays197 : Go.Proofs.Lays.n197 Tryz.prog Tryz.lays197_ren := {
  mixed := by kernel_rfl
  f197 := Tryz.func97.trans (congrArg some (by kernel_rfl))
  f260 := Tryz.func108.trans (congrArg some (by kernel_rfl))
  t0 := Tryz.underlying0
  a0 := Tryz.isAgg0
  z0 := Tryz.sizeOf0
  v0 := Tryz.zeroValue0
  t3 := Tryz.underlying3
  a3 := Tryz.isAgg3
  z3 := Tryz.sizeOf3
  v3 := Tryz.zeroValue3
  t4 := Tryz.underlying4
  a4 := Tryz.isAgg4
  z4 := Tryz.sizeOf4
  v4 := Tryz.zeroValue4
  t5 := Tryz.underlying5
  a5 := Tryz.isAgg5
  z5 := Tryz.sizeOf5
  v5 := Tryz.zeroValue5
  t9 := Tryz.underlying9
  a9 := Tryz.isAgg9
  z9 := Tryz.sizeOf9
  v9 := Tryz.zeroValue9
  t21 := Tryz.underlying21
  a21 := Tryz.isAgg21
  z21 := Tryz.sizeOf21
  v21 := Tryz.zeroValue21
  t46 := Tryz.underlying123
  a46 := Tryz.isAgg123
  z46 := Tryz.sizeOf123
  v46 := Tryz.zeroValue123
  t105 := Tryz.underlying103
  a105 := Tryz.isAgg103
  z105 := Tryz.sizeOf103
  v105 := Tryz.zeroValue103
  t119 := Tryz.underlying144
  a119 := Tryz.isAgg144
  z119 := Tryz.sizeOf144
  t138 := Tryz.underlying180
  a138 := Tryz.isAgg180
  z138 := Tryz.sizeOf180
  v138 := Tryz.zeroValue180
  t139 := Tryz.underlying181
  a139 := Tryz.isAgg181
  z139 := Tryz.sizeOf181
  v139 := Tryz.zeroValue181
  g3 := by kernel_rfl
  g4 := by kernel_rfl }
open Go.RowKit Go.Lib in
/-- unicode/utf8.DecodeRuneInString: "DecodeRuneInString is like DecodeRune but its input is a string.": ("DecodeRune unpacks the first UTF-8 encoding in p and returns the rune and its width in bytes."): WHERE s BEGINS WITH AN ASCII BYTE x: (x, 1). (LAID: no walk: one application.) -/
theorem Tryz.utf8_DecodeRuneInString_ascii (s : ByteArray) (x : UInt8) (w : World) (h0 : s.data.toList[0]? = some x) (hx : x.toNat < 128) :
    Calls Tryz.prog 97 #[.string s] w fun e w' => e = .returned (.tuple #[.int .i32 x.toNat, .int .i64 1]) ∧ w' = w := Any.utf8_DecodeRuneInString_ascii Tryz.lays197 s x w h0 hx
def Tryz.lays260_ren : Go.Shelf.Ren := ⟨fun | 260 => 108 | n => n, fun | 9 => 9 | 21 => 21 | 3 => 3 | 4 => 4 | 5 => 5 | 119 => 144 | 0 => 0 | 46 => 123 | 139 => 181 | 138 => 180 | n => n, fun | 3 => 4 | 4 => 5 | n => n⟩
theorem Tryz.lays260 : Go.Proofs.Lays.n260 Tryz.prog Tryz.lays260_ren := {
  mixed := by kernel_rfl
  f260 := Tryz.func108.trans (congrArg some (by kernel_rfl))
  t0 := Tryz.underlying0
  a0 := Tryz.isAgg0
  z0 := Tryz.sizeOf0
  v0 := Tryz.zeroValue0
  t3 := Tryz.underlying3
  a3 := Tryz.isAgg3
  z3 := Tryz.sizeOf3
  v3 := Tryz.zeroValue3
  t4 := Tryz.underlying4
  a4 := Tryz.isAgg4
  z4 := Tryz.sizeOf4
  v4 := Tryz.zeroValue4
  t5 := Tryz.underlying5
  a5 := Tryz.isAgg5
  z5 := Tryz.sizeOf5
  v5 := Tryz.zeroValue5
  t9 := Tryz.underlying9
  a9 := Tryz.isAgg9
  z9 := Tryz.sizeOf9
  v9 := Tryz.zeroValue9
  t21 := Tryz.underlying21
  a21 := Tryz.isAgg21
  z21 := Tryz.sizeOf21
  v21 := Tryz.zeroValue21
  t46 := Tryz.underlying123
  a46 := Tryz.isAgg123
  z46 := Tryz.sizeOf123
  v46 := Tryz.zeroValue123
  t119 := Tryz.underlying144
  a119 := Tryz.isAgg144
  z119 := Tryz.sizeOf144
  t138 := Tryz.underlying180
  a138 := Tryz.isAgg180
  z138 := Tryz.sizeOf180
  v138 := Tryz.zeroValue180
  t139 := Tryz.underlying181
  a139 := Tryz.isAgg181
  z139 := Tryz.sizeOf181
  v139 := Tryz.zeroValue181
  g3 := by kernel_rfl
  g4 := by kernel_rfl }
open Go.RowKit Go.Lib in
theorem Tryz.utf8_decodeRuneInStringSlow (s : ByteArray) (w : World) (hT : Lib.Utf8Tabs 4 5 w) :
    Calls Tryz.prog 108 #[.string s] w fun e w' => e = .returned (.tuple #[.int .i32 (Lib.decodeGo s).1, .int .i64 (Lib.decodeGo s).2]) ∧ Below w.heap.size w w' := Any.utf8_decodeRuneInStringSlow Tryz.lays260 s w hT
open Go.RowKit Go.Lib in
/-- **unicode/utf8.DecodeRuneInString AT EVERY STRING.** (LAID: no walk: one application.) -/
theorem Tryz.utf8_DecodeRuneInString (s : ByteArray) (w : World) (hT : Lib.Utf8Tabs 4 5 w) :
    Calls Tryz.prog 97 #[.string s] w fun e w' => e = .returned (.tuple #[.int .i32 (Lib.decodeGo s).1, .int .i64 (Lib.decodeGo s).2]) ∧ Below w.heap.size w w' := Any.utf8_DecodeRuneInString Tryz.lays197 s w hT
def Tryz.lays311_ren : Go.Shelf.Ren := ⟨fun | 311 => 110 | n => n, fun | 193 => 164 | 49 => 168 | 4 => 4 | 3 => 3 | 0 => 0 | 226 => 183 | 198 => 170 | 46 => 123 | n => n, fun | n => n⟩
theorem Tryz.lays311 : Go.Proofs.Lays.n311 Tryz.prog Tryz.lays311_ren := {
  mixed := by kernel_rfl
  f311 := Tryz.func110.trans (congrArg some (by kernel_rfl))
  t0 := Tryz.underlying0
  a0 := Tryz.isAgg0
  z0 := Tryz.sizeOf0
  v0 := Tryz.zeroValue0
  t3 := Tryz.underlying3
  a3 := Tryz.isAgg3
  z3 := Tryz.sizeOf3
  v3 := Tryz.zeroValue3
  t4 := Tryz.underlying4
  a4 := Tryz.isAgg4
  z4 := Tryz.sizeOf4
  v4 := Tryz.zeroValue4
  t46 := Tryz.underlying123
  a46 := Tryz.isAgg123
  z46 := Tryz.sizeOf123
  v46 := Tryz.zeroValue123
  t49 := Tryz.underlying168
  a49 := Tryz.isAgg168
  z49 := Tryz.sizeOf168
  v49 := Tryz.zeroValue168
  t193 := Tryz.underlying164
  a193 := Tryz.isAgg164
  z193 := Tryz.sizeOf164
  v193 := Tryz.zeroValue164
  t198 := Tryz.underlying170
  a198 := Tryz.isAgg170
  z198 := Tryz.sizeOf170
  v198 := Tryz.zeroValue170
  t226 := Tryz.underlying183
  a226 := Tryz.isAgg183
  z226 := Tryz.sizeOf183
  v226 := Tryz.zeroValue183 }
open Go.RowKit Go.Lib in
theorem Tryz.unicode_is16_white (R oR : Nat) (z : Nat) (w : World) (hz : z < 65536) (hz0 : 255 < z) (c6 : w.cell? ⟨R, oR + 6, none⟩ = some (.int .u16 160)) (c7 : w.cell? ⟨R, oR + 7, none⟩ = some (.int .u16 5760)) (c8 : w.cell? ⟨R, oR + 8, none⟩ = some (.int .u16 5600)) (c9 : w.cell? ⟨R, oR + 9, none⟩ = some (.int .u16 8192)) (c10 : w.cell? ⟨R, oR + 10, none⟩ = some (.int .u16 8202)) (c11 : w.cell? ⟨R, oR + 11, none⟩ = some (.int .u16 1)) (c12 : w.cell? ⟨R, oR + 12, none⟩ = some (.int .u16 8232)) (c13 : w.cell? ⟨R, oR + 13, none⟩ = some (.int .u16 8233)) (c14 : w.cell? ⟨R, oR + 14, none⟩ = some (.int .u16 1)) (c15 : w.cell? ⟨R, oR + 15, none⟩ = some (.int .u16 8239)) (c16 : w.cell? ⟨R, oR + 16, none⟩ = some (.int .u16 8287)) (c17 : w.cell? ⟨R, oR + 17, none⟩ = some (.int .u16 48)) (c18 : w.cell? ⟨R, oR + 18, none⟩ = some (.int .u16 12288)) (c19 : w.cell? ⟨R, oR + 19, none⟩ = some (.int .u16 12288)) (c20 : w.cell? ⟨R, oR + 20, none⟩ = some (.int .u16 1)) :
    Calls Tryz.prog 110 #[.slice (some ⟨R, oR + 6, none⟩) 5 5, .int .u16 z] w fun e w' => e = .returned (.bool (Lib.isSpaceR z)) ∧ Below w.heap.size w w' := Any.unicode_is16_white Tryz.lays311 R oR z w hz hz0 c6 c7 c8 c9 c10 c11 c12 c13 c14 c15 c16 c17 c18 c19 c20
def Tryz.lays261_ren : Go.Shelf.Ren := ⟨fun | 261 => 101 | 311 => 110 | 312 => 111 | n => n, fun | 141 => 158 | 21 => 21 | 4 => 4 | 0 => 0 | 196 => 167 | 193 => 164 | 3 => 3 | 51 => 156 | 198 => 170 | 49 => 168 | 194 => 165 | 201 => 173 | 226 => 183 | 46 => 123 | 227 => 184 | n => n, fun | n => n⟩
theorem Tryz.lays261 : Go.Proofs.Lays.n261 Tryz.prog Tryz.lays261_ren := {
  mixed := by kernel_rfl
  f261 := Tryz.func101.trans (congrArg some (by kernel_rfl))
  f311 := Tryz.func110.trans (congrArg some (by kernel_rfl))
  f312 := Tryz.func111.trans (congrArg some (by kernel_rfl))
  t0 := Tryz.underlying0
  a0 := Tryz.isAgg0
  z0 := Tryz.sizeOf0
  v0 := Tryz.zeroValue0
  t3 := Tryz.underlying3
  a3 := Tryz.isAgg3
  z3 := Tryz.sizeOf3
  v3 := Tryz.zeroValue3
  t4 := Tryz.underlying4
  a4 := Tryz.isAgg4
  z4 := Tryz.sizeOf4
  v4 := Tryz.zeroValue4
  t21 := Tryz.underlying21
  a21 := Tryz.isAgg21
  z21 := Tryz.sizeOf21
  v21 := Tryz.zeroValue21
  t46 := Tryz.underlying123
  a46 := Tryz.isAgg123
  z46 := Tryz.sizeOf123
  v46 := Tryz.zeroValue123
  t49 := Tryz.underlying168
  a49 := Tryz.isAgg168
  z49 := Tryz.sizeOf168
  v49 := Tryz.zeroValue168
  t51 := Tryz.underlying156
  a51 := Tryz.isAgg156
  z51 := Tryz.sizeOf156
  v51 := Tryz.zeroValue156
  t141 := Tryz.underlying158
  a141 := Tryz.isAgg158
  z141 := Tryz.sizeOf158
  v141 := Tryz.zeroValue158
  t193 := Tryz.underlying164
  a193 := Tryz.isAgg164
  z193 := Tryz.sizeOf164
  v193 := Tryz.zeroValue164
  t194 := Tryz.underlying165
  a194 := Tryz.isAgg165
  z194 := Tryz.sizeOf165
  v194 := Tryz.zeroValue165
  t196 := Tryz.underlying167
  a196 := Tryz.isAgg167
  z196 := Tryz.sizeOf167
  v196 := Tryz.zeroValue167
  t198 := Tryz.underlying170
  a198 := Tryz.isAgg170
  z198 := Tryz.sizeOf170
  v198 := Tryz.zeroValue170
  t201 := Tryz.underlying173
  a201 := Tryz.isAgg173
  z201 := Tryz.sizeOf173
  v201 := Tryz.zeroValue173
  t226 := Tryz.underlying183
  a226 := Tryz.isAgg183
  z226 := Tryz.sizeOf183
  v226 := Tryz.zeroValue183
  t227 := Tryz.underlying184
  a227 := Tryz.isAgg184
  z227 := Tryz.sizeOf184
  v227 := Tryz.zeroValue184 }
open Go.RowKit Go.Lib in
/-- unicode.isExcludingLatin(White_Space, r), r beyond U+00FF or negative. (LAID: no walk: one application.) -/
theorem Tryz.unicode_isExcludingLatin_white (T oT R oR : Nat) (r : Int) (w : World) (hlo : -2147483648 ≤ r) (hhi : r ≤ 2147483647) (hr : r < 0 ∨ 255 < r) (h2 : w.cell? ⟨T, oT, none⟩ = some (.slice (some ⟨R, oR, none⟩) 7 7)) (h3 : w.cell? ⟨T, oT + 1, none⟩ = some (.slice none 0 0)) (h4 : w.cell? ⟨T, oT + 2, none⟩ = some (.int .i64 2)) (h5 : ∀ i, i < 21 → w.cell? ⟨R, oR + i, none⟩ = some (.int .u16 (whiteT.getD i 0))) :
    Calls Tryz.prog 101 #[.pointer (some ⟨T, oT, none⟩), .int .i32 r] w fun e w' => e = .returned (.bool (Lib.isSpaceZ r)) ∧ Below w.heap.size w w' := Any.unicode_isExcludingLatin_white Tryz.lays261 T oT R oR r w hlo hhi hr h2 h3 h4 h5
open Go.RowKit Go.Lib in
/-- **unicode.IsSpace AT EVERY int32.** (LAID: no walk: one application.) -/
theorem Tryz.unicode_IsSpace_any (r : Int) (w : World) (hlo : -2147483648 ≤ r) (hhi : r ≤ 2147483647) (hW : Lib.WhiteTab 1 w) :
    Calls Tryz.prog 94 #[.int .i32 r] w fun e w' => e = .returned (.bool (Lib.isSpaceZ r)) ∧ Below w.heap.size w w' := Any.unicode_IsSpace_any Tryz.lays199 r w hlo hhi hW
open Go.RowKit Go.Lib in
theorem Tryz.unicode_is16_any (T : Array Rg) (R oR cap : Nat) (z : Nat) (w : World) (hz : z < 65536) (hT : RgTab .u16 R oR T w) (hok : RgOk 65536 T) (hn : T.size ≤ 1000000000) :
    Calls Tryz.prog 110 #[.slice (some ⟨R, oR, none⟩) T.size cap, .int .u16 z] w fun e w' => e = .returned (.bool (is16Go T z)) ∧ ∃ q, w' = w.drewN q := Any.unicode_is16_any Tryz.lays311 T R oR cap z w hz hT hok hn
def Tryz.lays312_ren : Go.Shelf.Ren := ⟨fun | 312 => 111 | n => n, fun | 194 => 165 | 51 => 156 | 4 => 4 | 3 => 3 | 0 => 0 | 227 => 184 | 201 => 173 | 46 => 123 | n => n, fun | n => n⟩
theorem Tryz.lays312 : Go.Proofs.Lays.n312 Tryz.prog Tryz.lays312_ren := {
  mixed := by kernel_rfl
  f312 := Tryz.func111.trans (congrArg some (by kernel_rfl))
  t0 := Tryz.underlying0
  a0 := Tryz.isAgg0
  z0 := Tryz.sizeOf0
  v0 := Tryz.zeroValue0
  t3 := Tryz.underlying3
  a3 := Tryz.isAgg3
  z3 := Tryz.sizeOf3
  v3 := Tryz.zeroValue3
  t4 := Tryz.underlying4
  a4 := Tryz.isAgg4
  z4 := Tryz.sizeOf4
  v4 := Tryz.zeroValue4
  t46 := Tryz.underlying123
  a46 := Tryz.isAgg123
  z46 := Tryz.sizeOf123
  v46 := Tryz.zeroValue123
  t51 := Tryz.underlying156
  a51 := Tryz.isAgg156
  z51 := Tryz.sizeOf156
  v51 := Tryz.zeroValue156
  t194 := Tryz.underlying165
  a194 := Tryz.isAgg165
  z194 := Tryz.sizeOf165
  v194 := Tryz.zeroValue165
  t201 := Tryz.underlying173
  a201 := Tryz.isAgg173
  z201 := Tryz.sizeOf173
  v201 := Tryz.zeroValue173
  t227 := Tryz.underlying184
  a227 := Tryz.isAgg184
  z227 := Tryz.sizeOf184
  v227 := Tryz.zeroValue184 }
open Go.RowKit Go.Lib in
theorem Tryz.unicode_is32_any (T : Array Rg) (R oR cap : Nat) (z : Nat) (w : World) (hz : z < 4294967296) (hT : RgTab .u32 R oR T w) (hok : RgOk 4294967296 T) (hn : T.size ≤ 1000000000) :
    Calls Tryz.prog 111 #[.slice (some ⟨R, oR, none⟩) T.size cap, .int .u32 z] w fun e w' => e = .returned (.bool (is32Go T z)) ∧ Below w.heap.size w w' := Any.unicode_is32_any Tryz.lays312 T R oR cap z w hz hT hok hn
open Go.RowKit Go.Lib in
theorem Tryz.unicode_isExcludingLatin_any (Tb oT : Nat) (T : RTab) (r : Int) (w : World) (hlo : -2147483648 ≤ r) (hhi : r ≤ 2147483647) (hA : RTabAt Tb oT T w) (hok : RTabOk T) :
    Calls Tryz.prog 101 #[.pointer (some ⟨Tb, oT, none⟩), .int .i32 r] w fun e w' => e = .returned (.bool (exclGo T r)) ∧ Below w.heap.size w w' := Any.unicode_isExcludingLatin_any Tryz.lays261 Tb oT T r w hlo hhi hA hok
end Go.Proofs
