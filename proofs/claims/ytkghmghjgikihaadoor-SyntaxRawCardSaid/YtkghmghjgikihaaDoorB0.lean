/- Bundle of texts: each says at its head what it proves; no conditions but those printed. -/
import Derived.Shelf.Strconv.Itoa0
import Derived.Shelf.Strconv.Itoa1
import Derived.Shelf.LaysM
import Derived.Shelf.Strconv.Itoa2
import Derived.Shelf.Strconv.Itoa3
import Derived.Shelf.Strings.Search1
import Derived.Shelf.Strings.Search2
import Derived.Shelf.Strings.Cut
import Derived.Shelf.Strings.Shaped
import Derived.Shelf.Strings.Prefix
import Derived.Test.YtkghmghjgikihaaDoorProg
import Derived.OrdersHeld
import Derived.Deep.Quiet
import Derived.StillTail
import Derived.Deep.RegionHeld3
import Derived.Below
import Derived.WalkKit
import Derived.WalkSpells
import Derived.WalkLawsBesides
import Derived.Lib.Hide
import Derived.Shelf.Spec.BitsCarry
/-
  DERIVED: THE SHELF's CONTRACTS AT THIS DUMP, IN PLAIN WORDS (tools/lay-plain.mjs out of 'TrydShelf.lean', which tools/lay-shelf.mjs wrote): THE SAME DECLARATIONS UNDER THE SAME NAMES: 'import', 'namespace', 'open', 'def', 'theorem' AND NOTHING ELSE: no command of the shelf's: FOR A HAND-IN. Each laying: the table of numbers ('.._ren') and one theorem, a field a fact of the dump's own or the kernel's comparison; each contract: ONE APPLICATION.
-/
namespace Go.Proofs
open Go.Shelf
def Tryd.lays129_ren : Go.Shelf.Ren := ⟨fun | 129 => 114 | n => n, fun | 53 => 115 | 3 => 3 | 4 => 4 | 46 => 144 | 5 => 5 | 9 => 9 | n => n, fun | n => n⟩
theorem Tryd.lays129 : Go.Proofs.Lays.n129 Tryd.prog Tryd.lays129_ren := {
  mixed := by kernel_rfl
  f129 := Tryd.func114.trans (congrArg some (by kernel_rfl))
  t3 := Tryd.underlying3
  a3 := Tryd.isAgg3
  z3 := Tryd.sizeOf3
  v3 := Tryd.zeroValue3
  t4 := Tryd.underlying4
  a4 := Tryd.isAgg4
  z4 := Tryd.sizeOf4
  v4 := Tryd.zeroValue4
  t5 := Tryd.underlying5
  a5 := Tryd.isAgg5
  z5 := Tryd.sizeOf5
  v5 := Tryd.zeroValue5
  t9 := Tryd.underlying9
  a9 := Tryd.isAgg9
  z9 := Tryd.sizeOf9
  v9 := Tryd.zeroValue9
  t46 := Tryd.underlying144
  a46 := Tryd.isAgg144
  z46 := Tryd.sizeOf144
  v46 := Tryd.zeroValue144
  t53 := Tryd.underlying115
  a53 := Tryd.isAgg115
  z53 := Tryd.sizeOf115
  v53 := Tryd.zeroValue115 }
/-- bits.Len64: "Len64 returns the minimum number of bits required to represent x; the result is 0 for x == 0.": IT RETURNS 'Lib.bitLen x'; the world is as it was. ('h0', 'h1': x is a uint64.) (LAID: no walk: one application.) -/
theorem Tryd.bits_Len64 (x : Int) (w : World) (h0 : 0 ≤ x) (h1 : x ≤ 18446744073709551615) :
    Calls Tryd.prog 114 #[.int .u64 x] w fun e w' => e = .returned (.int .i64 (Lib.bitLen x.toNat)) ∧ w' = w := Any.bits_Len64 Tryd.lays129 x w h0 h1
def Tryd.lays317_ren : Go.Shelf.Ren := ⟨fun | 317 => 113 | n => n, fun | 3 => 3 | 46 => 144 | n => n, fun | n => n⟩
theorem Tryd.lays317 : Go.Proofs.Lays.n317 Tryd.prog Tryd.lays317_ren := {
  mixed := by kernel_rfl
  f317 := Tryd.func113.trans (congrArg some (by kernel_rfl))
  t3 := Tryd.underlying3
  a3 := Tryd.isAgg3
  z3 := Tryd.sizeOf3
  v3 := Tryd.zeroValue3
  t46 := Tryd.underlying144
  a46 := Tryd.isAgg144
  z46 := Tryd.sizeOf144
  v46 := Tryd.zeroValue144 }
open Go.Lib in
/-- internal/strconv.log10Pow2: "log10Pow2(x) returns ⌊log₁₀ 2**x⌋ = ⌊x * log₁₀ 2⌋.": '(x * 78913) >> 18', at an x up to 64 (a length in bits). The world is as it was. (LAID: no walk: one application.) -/
theorem Tryd.internal_strconv_log10Pow2 (x : Nat) (h : x ≤ 64) (w : World) :
    Calls Tryd.prog 113 #[.int .i64 x] w fun e w' => e = .returned (.int .i64 (Lib.l10 x)) ∧ w' = w := Any.internal_strconv_log10Pow2 Tryd.lays317 x h w
def Tryd.lays318_ren : Go.Shelf.Ren := ⟨fun | 318 => 115 | n => n, fun | 3 => 3 | 4 => 4 | n => n, fun | n => n⟩
theorem Tryd.lays318 : Go.Proofs.Lays.n318 Tryd.prog Tryd.lays318_ren := {
  mixed := by kernel_rfl
  f318 := Tryd.func115.trans (congrArg some (by kernel_rfl))
  t3 := Tryd.underlying3
  a3 := Tryd.isAgg3
  z3 := Tryd.sizeOf3
  v3 := Tryd.zeroValue3
  t4 := Tryd.underlying4
  a4 := Tryd.isAgg4
  z4 := Tryd.sizeOf4
  v4 := Tryd.zeroValue4 }
open Go.Lib in
/-- internal/strconv.bool2: "bool2 converts b to an integer: 1 for true, 0 for false." The world is as it was. (LAID: no walk: one application.) -/
theorem Tryd.internal_strconv_bool2_int (b : Bool) (w : World) :
    Calls Tryd.prog 115 #[.bool b] w fun e w' => e = .returned (.int .i64 (if b then 1 else 0)) ∧ w' = w := Any.internal_strconv_bool2_int Tryd.lays318 b w
def Tryd.lays283_ren : Go.Shelf.Ren := ⟨fun | 283 => 102 | n => n, fun | 3 => 3 | 9 => 9 | 4 => 4 | n => n, fun | n => n⟩
theorem Tryd.lays283 : Go.Proofs.Lays.n283 Tryd.prog Tryd.lays283_ren := {
  mixed := by kernel_rfl
  f283 := Tryd.func102.trans (congrArg some (by kernel_rfl))
  t3 := Tryd.underlying3
  a3 := Tryd.isAgg3
  z3 := Tryd.sizeOf3
  v3 := Tryd.zeroValue3
  t4 := Tryd.underlying4
  a4 := Tryd.isAgg4
  z4 := Tryd.sizeOf4
  v4 := Tryd.zeroValue4
  t9 := Tryd.underlying9
  a9 := Tryd.isAgg9
  z9 := Tryd.sizeOf9
  v9 := Tryd.zeroValue9 }
open Go.Lib in
/-- internal/strconv.small: "small returns the string for an i with 0 <= i < nSmalls.": i's decimal numeral. The world is as it was. (LAID: no walk: one application.) -/
theorem Tryd.internal_strconv_small (i : Nat) (h : i < 100) (w : World) :
    Calls Tryd.prog 102 #[.int .i64 i] w fun e w' => e = .returned (.string ⟨(Lib.decDigits i).toArray⟩) ∧ w' = w := Any.internal_strconv_small Tryd.lays283 i h w
def Tryd.laysM284_ren : Go.Shelf.Ren := ⟨fun | 284 => 103 | 129 => 114 | 317 => 113 | 318 => 115 | n => n, fun | 53 => 115 | 3 => 3 | 212 => 141 | 0 => 0 | 4 => 4 | 46 => 144 | 5 => 5 | 9 => 9 | n => n, fun | 17 => 0 | n => n⟩
theorem Tryd.laysM284 : Go.Proofs.LaysM.n284 Tryd.prog Tryd.laysM284_ren := {
  mixed := by kernel_rfl
  f129 := Tryd.func114.trans (congrArg some (by kernel_rfl))
  f284 := Tryd.func103.trans (congrArg some (by kernel_rfl))
  f317 := Tryd.func113.trans (congrArg some (by kernel_rfl))
  f318 := Tryd.func115.trans (congrArg some (by kernel_rfl))
  t0 := Tryd.underlying0
  a0 := Tryd.isAgg0
  z0 := Tryd.sizeOf0
  v0 := Tryd.zeroValue0
  t3 := Tryd.underlying3
  a3 := Tryd.isAgg3
  z3 := Tryd.sizeOf3
  v3 := Tryd.zeroValue3
  t4 := Tryd.underlying4
  a4 := Tryd.isAgg4
  z4 := Tryd.sizeOf4
  v4 := Tryd.zeroValue4
  t5 := Tryd.underlying5
  a5 := Tryd.isAgg5
  z5 := Tryd.sizeOf5
  v5 := Tryd.zeroValue5
  t9 := Tryd.underlying9
  a9 := Tryd.isAgg9
  z9 := Tryd.sizeOf9
  v9 := Tryd.zeroValue9
  t46 := Tryd.underlying144
  a46 := Tryd.isAgg144
  z46 := Tryd.sizeOf144
  v46 := Tryd.zeroValue144
  t53 := Tryd.underlying115
  a53 := Tryd.isAgg115
  z53 := Tryd.sizeOf115
  v53 := Tryd.zeroValue115
  t212 := Tryd.underlying141
  a212 := Tryd.isAgg141
  z212 := Tryd.sizeOf141
  v212 := Tryd.zeroValue141
  g17 := by kernel_rfl
  i0 := by kernel_rfl
  i3 := by kernel_rfl
  i4 := by kernel_rfl
  i5 := by kernel_rfl
  i9 := by kernel_rfl
  i46 := by kernel_rfl
  i53 := by kernel_rfl
  i212 := by kernel_rfl
  m17 := by kernel_rfl }
open Go.Lib in
/-- internal/strconv.numDigits, at a d that is not 0: THE NUMBER OF d's DECIMAL DIGITS. The world is as it was. (LAID: no walk: one application.) -/
theorem Tryd.internal_strconv_numDigits (u : Nat) (h1 : 1 ≤ u) (h2 : u < 18446744073709551616) (w : World) (htab : Lib.TabIs Tryd.prog w "internal/strconv.uint64pow10" .u64 Lib.pow10Tab) :
    Calls Tryd.prog 103 #[.int .u64 u] w fun e w' => e = .returned (.int .i64 (Lib.nDigits u)) ∧ w' = w := Any.internal_strconv_numDigits Tryd.laysM284 u h1 h2 w htab
def Tryd.lays285_ren : Go.Shelf.Ren := ⟨fun | 285 => 104 | n => n, fun | 37 => 134 | 53 => 115 | 3 => 3 | 4 => 4 | 51 => 142 | 9 => 9 | 5 => 5 | 0 => 0 | n => n, fun | n => n⟩
theorem Tryd.lays285 : Go.Proofs.Lays.n285 Tryd.prog Tryd.lays285_ren := {
  mixed := by kernel_rfl
  f285 := Tryd.func104.trans (congrArg some (by kernel_rfl))
  t0 := Tryd.underlying0
  a0 := Tryd.isAgg0
  z0 := Tryd.sizeOf0
  v0 := Tryd.zeroValue0
  t3 := Tryd.underlying3
  a3 := Tryd.isAgg3
  z3 := Tryd.sizeOf3
  v3 := Tryd.zeroValue3
  t4 := Tryd.underlying4
  a4 := Tryd.isAgg4
  z4 := Tryd.sizeOf4
  v4 := Tryd.zeroValue4
  t5 := Tryd.underlying5
  a5 := Tryd.isAgg5
  z5 := Tryd.sizeOf5
  v5 := Tryd.zeroValue5
  t9 := Tryd.underlying9
  a9 := Tryd.isAgg9
  z9 := Tryd.sizeOf9
  v9 := Tryd.zeroValue9
  t37 := Tryd.underlying134
  a37 := Tryd.isAgg134
  z37 := Tryd.sizeOf134
  v37 := Tryd.zeroValue134
  t51 := Tryd.underlying142
  a51 := Tryd.isAgg142
  z51 := Tryd.sizeOf142
  v51 := Tryd.zeroValue142
  t53 := Tryd.underlying115
  a53 := Tryd.isAgg115
  z53 := Tryd.sizeOf115
  v53 := Tryd.zeroValue115 }
open Go.RowKit Go.Sort Go.Lib in
/-- internal/strconv.formatBase10: "formatBase10 formats the decimal representation of u into a. The caller is responsible for ensuring that a is big enough to hold u. If a is too big, leading zeros will be filled in as needed.": THE ROW HOLDS u's DIGITS ('FmtInv .. 0 ..': every place t holds 'dg u (len - 1 - t)'); all else is as it was but for the count of draws. (LAID: no walk: one application.) -/
theorem Tryd.internal_strconv_formatBase10 (blk off cap : Nat) (u : Nat) (d : Array UInt8) (w : World) (hH : Holds (fun (b : UInt8) => Value.int .u8 (b.toNat : Int)) w blk off d) (hu : u < 10 ^ d.size) (hu64 : u < 18446744073709551616) (hsz : d.size < 4611686018427387904) :
    Calls Tryd.prog 104 #[.slice (some ⟨blk, off, none⟩) d.size cap, .int .u64 u] w fun e w' =>
      e = .returned (.tuple #[]) ∧ ∃ (n v' : Nat) (dk : Array UInt8), w' = (putRow (fun (b : UInt8) => Value.int .u8 (b.toNat : Int)) w blk off dk).drewN n ∧ FmtInv d.size u 0 v' dk := Any.internal_strconv_formatBase10 Tryd.lays285 blk off cap u d w hH hu hu64 hsz
def Tryd.laysM246_ren : Go.Shelf.Ren := ⟨fun | 246 => 88 | 283 => 102 | 284 => 103 | 285 => 104 | 286 => 105 | 129 => 114 | 317 => 113 | 318 => 115 | 319 => 116 | 320 => 117 | 337 => 123 | 338 => 124 | n => n, fun | 2 => 2 | 3 => 3 | 9 => 9 | 4 => 4 | 171 => 131 | 0 => 0 | 53 => 115 | 37 => 134 | 5 => 5 | 173 => 135 | 212 => 141 | 51 => 142 | 20 => 20 | 213 => 143 | 46 => 144 | 232 => 150 | 233 => 151 | n => n, fun | 17 => 0 | 18 => 2 | 19 => 3 | n => n⟩
theorem Tryd.laysM246 : Go.Proofs.LaysM.n246 Tryd.prog Tryd.laysM246_ren := {
  mixed := by kernel_rfl
  f129 := Tryd.func114.trans (congrArg some (by kernel_rfl))
  f246 := Tryd.func88.trans (congrArg some (by kernel_rfl))
  f283 := Tryd.func102.trans (congrArg some (by kernel_rfl))
  f284 := Tryd.func103.trans (congrArg some (by kernel_rfl))
  f285 := Tryd.func104.trans (congrArg some (by kernel_rfl))
  f286 := Tryd.func105.trans (congrArg some (by kernel_rfl))
  f317 := Tryd.func113.trans (congrArg some (by kernel_rfl))
  f318 := Tryd.func115.trans (congrArg some (by kernel_rfl))
  f319 := Tryd.func116.trans (congrArg some (by kernel_rfl))
  f320 := Tryd.func117.trans (congrArg some (by kernel_rfl))
  f337 := Tryd.func123.trans (congrArg some (by kernel_rfl))
  f338 := Tryd.func124.trans (congrArg some (by kernel_rfl))
  t0 := Tryd.underlying0
  a0 := Tryd.isAgg0
  z0 := Tryd.sizeOf0
  v0 := Tryd.zeroValue0
  t2 := Tryd.underlying2
  a2 := Tryd.isAgg2
  z2 := Tryd.sizeOf2
  v2 := Tryd.zeroValue2
  t3 := Tryd.underlying3
  a3 := Tryd.isAgg3
  z3 := Tryd.sizeOf3
  v3 := Tryd.zeroValue3
  t4 := Tryd.underlying4
  a4 := Tryd.isAgg4
  z4 := Tryd.sizeOf4
  v4 := Tryd.zeroValue4
  t5 := Tryd.underlying5
  a5 := Tryd.isAgg5
  z5 := Tryd.sizeOf5
  v5 := Tryd.zeroValue5
  t9 := Tryd.underlying9
  a9 := Tryd.isAgg9
  z9 := Tryd.sizeOf9
  v9 := Tryd.zeroValue9
  t20 := Tryd.underlying20
  a20 := Tryd.isAgg20
  z20 := Tryd.sizeOf20
  v20 := Tryd.zeroValue20
  t37 := Tryd.underlying134
  a37 := Tryd.isAgg134
  z37 := Tryd.sizeOf134
  v37 := Tryd.zeroValue134
  t46 := Tryd.underlying144
  a46 := Tryd.isAgg144
  z46 := Tryd.sizeOf144
  v46 := Tryd.zeroValue144
  t51 := Tryd.underlying142
  a51 := Tryd.isAgg142
  z51 := Tryd.sizeOf142
  v51 := Tryd.zeroValue142
  t53 := Tryd.underlying115
  a53 := Tryd.isAgg115
  z53 := Tryd.sizeOf115
  v53 := Tryd.zeroValue115
  t171 := Tryd.underlying131
  a171 := Tryd.isAgg131
  z171 := Tryd.sizeOf131
  v171 := Tryd.zeroValue131
  t173 := Tryd.underlying135
  a173 := Tryd.isAgg135
  z173 := Tryd.sizeOf135
  v173 := Tryd.zeroValue135
  t212 := Tryd.underlying141
  a212 := Tryd.isAgg141
  z212 := Tryd.sizeOf141
  v212 := Tryd.zeroValue141
  t213 := Tryd.underlying143
  a213 := Tryd.isAgg143
  z213 := Tryd.sizeOf143
  t232 := Tryd.underlying150
  a232 := Tryd.isAgg150
  z232 := Tryd.sizeOf150
  v232 := Tryd.zeroValue150
  t233 := Tryd.underlying151
  a233 := Tryd.isAgg151
  z233 := Tryd.sizeOf151
  v233 := Tryd.zeroValue151
  g17 := by kernel_rfl
  g18 := by kernel_rfl
  g19 := by kernel_rfl
  i0 := by kernel_rfl
  i2 := by kernel_rfl
  i3 := by kernel_rfl
  i4 := by kernel_rfl
  i5 := by kernel_rfl
  i9 := by kernel_rfl
  i20 := by kernel_rfl
  i37 := by kernel_rfl
  i46 := by kernel_rfl
  i51 := by kernel_rfl
  i53 := by kernel_rfl
  i171 := by kernel_rfl
  i173 := by kernel_rfl
  i212 := by kernel_rfl
  i232 := by kernel_rfl
  i233 := by kernel_rfl
  m17 := by kernel_rfl
  m18 := by kernel_rfl
  m19 := by kernel_rfl }
open Go.RowKit Go.Sort Go.Lib in
/-- internal/strconv.FormatInt: "FormatInt returns the string representation of i in the given base": AT BASE 10: i's decimal numeral, for every int64. The world behind the call: the world before it, new blocks behind the heap, draws. (LAID: no walk: one application.) -/
theorem Tryd.internal_strconv_FormatInt_10 (n : Int) (h0 : -9223372036854775808 ≤ n) (h1 : n ≤ 9223372036854775807) (w : World) (htab : Lib.TabIs Tryd.prog w "internal/strconv.uint64pow10" .u64 Lib.pow10Tab) :
    Calls Tryd.prog 88 #[.int .i64 n, .int .i64 10] w fun e w' => e = .returned (.string ⟨(Lib.itoa n).toArray⟩) ∧ ∃ k os, w' = grow (w.drewN k) os := Any.internal_strconv_FormatInt_10 Tryd.laysM246 n h0 h1 w htab
def Tryd.lays246_ren : Go.Shelf.Ren := ⟨fun | 246 => 88 | 283 => 102 | 284 => 103 | 285 => 104 | 286 => 105 | 129 => 114 | 317 => 113 | 318 => 115 | 319 => 116 | 320 => 117 | 337 => 123 | 338 => 124 | n => n, fun | 2 => 2 | 3 => 3 | 9 => 9 | 4 => 4 | 171 => 131 | 0 => 0 | 53 => 115 | 37 => 134 | 5 => 5 | 173 => 135 | 212 => 141 | 51 => 142 | 20 => 20 | 213 => 143 | 46 => 144 | 232 => 150 | 233 => 151 | n => n, fun | 17 => 0 | 18 => 2 | 19 => 3 | n => n⟩
theorem Tryd.lays246 : Go.Proofs.Lays.n246 Tryd.prog Tryd.lays246_ren := {
  mixed := by kernel_rfl
  f129 := Tryd.func114.trans (congrArg some (by kernel_rfl))
  f246 := Tryd.func88.trans (congrArg some (by kernel_rfl))
  f283 := Tryd.func102.trans (congrArg some (by kernel_rfl))
  f284 := Tryd.func103.trans (congrArg some (by kernel_rfl))
  f285 := Tryd.func104.trans (congrArg some (by kernel_rfl))
  f286 := Tryd.func105.trans (congrArg some (by kernel_rfl))
  f317 := Tryd.func113.trans (congrArg some (by kernel_rfl))
  f318 := Tryd.func115.trans (congrArg some (by kernel_rfl))
  f319 := Tryd.func116.trans (congrArg some (by kernel_rfl))
  f320 := Tryd.func117.trans (congrArg some (by kernel_rfl))
  f337 := Tryd.func123.trans (congrArg some (by kernel_rfl))
  f338 := Tryd.func124.trans (congrArg some (by kernel_rfl))
  t0 := Tryd.underlying0
  a0 := Tryd.isAgg0
  z0 := Tryd.sizeOf0
  v0 := Tryd.zeroValue0
  t2 := Tryd.underlying2
  a2 := Tryd.isAgg2
  z2 := Tryd.sizeOf2
  v2 := Tryd.zeroValue2
  t3 := Tryd.underlying3
  a3 := Tryd.isAgg3
  z3 := Tryd.sizeOf3
  v3 := Tryd.zeroValue3
  t4 := Tryd.underlying4
  a4 := Tryd.isAgg4
  z4 := Tryd.sizeOf4
  v4 := Tryd.zeroValue4
  t5 := Tryd.underlying5
  a5 := Tryd.isAgg5
  z5 := Tryd.sizeOf5
  v5 := Tryd.zeroValue5
  t9 := Tryd.underlying9
  a9 := Tryd.isAgg9
  z9 := Tryd.sizeOf9
  v9 := Tryd.zeroValue9
  t20 := Tryd.underlying20
  a20 := Tryd.isAgg20
  z20 := Tryd.sizeOf20
  v20 := Tryd.zeroValue20
  t37 := Tryd.underlying134
  a37 := Tryd.isAgg134
  z37 := Tryd.sizeOf134
  v37 := Tryd.zeroValue134
  t46 := Tryd.underlying144
  a46 := Tryd.isAgg144
  z46 := Tryd.sizeOf144
  v46 := Tryd.zeroValue144
  t51 := Tryd.underlying142
  a51 := Tryd.isAgg142
  z51 := Tryd.sizeOf142
  v51 := Tryd.zeroValue142
  t53 := Tryd.underlying115
  a53 := Tryd.isAgg115
  z53 := Tryd.sizeOf115
  v53 := Tryd.zeroValue115
  t171 := Tryd.underlying131
  a171 := Tryd.isAgg131
  z171 := Tryd.sizeOf131
  v171 := Tryd.zeroValue131
  t173 := Tryd.underlying135
  a173 := Tryd.isAgg135
  z173 := Tryd.sizeOf135
  v173 := Tryd.zeroValue135
  t212 := Tryd.underlying141
  a212 := Tryd.isAgg141
  z212 := Tryd.sizeOf141
  v212 := Tryd.zeroValue141
  t213 := Tryd.underlying143
  a213 := Tryd.isAgg143
  z213 := Tryd.sizeOf143
  t232 := Tryd.underlying150
  a232 := Tryd.isAgg150
  z232 := Tryd.sizeOf150
  v232 := Tryd.zeroValue150
  t233 := Tryd.underlying151
  a233 := Tryd.isAgg151
  z233 := Tryd.sizeOf151
  v233 := Tryd.zeroValue151
  g17 := by kernel_rfl
  g18 := by kernel_rfl
  g19 := by kernel_rfl }
open Go.RowKit Go.Sort Go.Lib in
/-- THE ROAD WITHOUT THE TABLE: 0 <= i < 100: two constants are read, nothing is laid: no premise on the world, and the world is as it was. (LAID: no walk: one application.) -/
theorem Tryd.internal_strconv_FormatInt_10_small (i : Nat) (hi : i < 100) (w : World) :
    Calls Tryd.prog 88 #[.int .i64 i, .int .i64 10] w fun e w' => e = .returned (.string ⟨(Lib.decDigits i).toArray⟩) ∧ w' = w := Any.internal_strconv_FormatInt_10_small Tryd.lays246 i hi w
def Tryd.laysM243_ren : Go.Shelf.Ren := ⟨fun | 243 => 65 | 246 => 88 | 283 => 102 | 284 => 103 | 285 => 104 | 286 => 105 | 129 => 114 | 317 => 113 | 318 => 115 | 319 => 116 | 320 => 117 | 337 => 123 | 338 => 124 | n => n, fun | 3 => 3 | 9 => 9 | 2 => 2 | 4 => 4 | 171 => 131 | 0 => 0 | 53 => 115 | 37 => 134 | 5 => 5 | 173 => 135 | 212 => 141 | 51 => 142 | 20 => 20 | 213 => 143 | 46 => 144 | 232 => 150 | 233 => 151 | n => n, fun | 17 => 0 | 18 => 2 | 19 => 3 | n => n⟩
theorem Tryd.laysM243 : Go.Proofs.LaysM.n243 Tryd.prog Tryd.laysM243_ren := {
  mixed := by kernel_rfl
  f129 := Tryd.func114.trans (congrArg some (by kernel_rfl))
  f243 := Tryd.func65.trans (congrArg some (by kernel_rfl))
  f246 := Tryd.func88.trans (congrArg some (by kernel_rfl))
  f283 := Tryd.func102.trans (congrArg some (by kernel_rfl))
  f284 := Tryd.func103.trans (congrArg some (by kernel_rfl))
  f285 := Tryd.func104.trans (congrArg some (by kernel_rfl))
  f286 := Tryd.func105.trans (congrArg some (by kernel_rfl))
  f317 := Tryd.func113.trans (congrArg some (by kernel_rfl))
  f318 := Tryd.func115.trans (congrArg some (by kernel_rfl))
  f319 := Tryd.func116.trans (congrArg some (by kernel_rfl))
  f320 := Tryd.func117.trans (congrArg some (by kernel_rfl))
  f337 := Tryd.func123.trans (congrArg some (by kernel_rfl))
  f338 := Tryd.func124.trans (congrArg some (by kernel_rfl))
  t0 := Tryd.underlying0
  a0 := Tryd.isAgg0
  z0 := Tryd.sizeOf0
  v0 := Tryd.zeroValue0
  t2 := Tryd.underlying2
  a2 := Tryd.isAgg2
  z2 := Tryd.sizeOf2
  v2 := Tryd.zeroValue2
  t3 := Tryd.underlying3
  a3 := Tryd.isAgg3
  z3 := Tryd.sizeOf3
  v3 := Tryd.zeroValue3
  t4 := Tryd.underlying4
  a4 := Tryd.isAgg4
  z4 := Tryd.sizeOf4
  v4 := Tryd.zeroValue4
  t5 := Tryd.underlying5
  a5 := Tryd.isAgg5
  z5 := Tryd.sizeOf5
  v5 := Tryd.zeroValue5
  t9 := Tryd.underlying9
  a9 := Tryd.isAgg9
  z9 := Tryd.sizeOf9
  v9 := Tryd.zeroValue9
  t20 := Tryd.underlying20
  a20 := Tryd.isAgg20
  z20 := Tryd.sizeOf20
  v20 := Tryd.zeroValue20
  t37 := Tryd.underlying134
  a37 := Tryd.isAgg134
  z37 := Tryd.sizeOf134
  v37 := Tryd.zeroValue134
  t46 := Tryd.underlying144
  a46 := Tryd.isAgg144
  z46 := Tryd.sizeOf144
  v46 := Tryd.zeroValue144
  t51 := Tryd.underlying142
  a51 := Tryd.isAgg142
  z51 := Tryd.sizeOf142
  v51 := Tryd.zeroValue142
  t53 := Tryd.underlying115
  a53 := Tryd.isAgg115
  z53 := Tryd.sizeOf115
  v53 := Tryd.zeroValue115
  t171 := Tryd.underlying131
  a171 := Tryd.isAgg131
  z171 := Tryd.sizeOf131
  v171 := Tryd.zeroValue131
  t173 := Tryd.underlying135
  a173 := Tryd.isAgg135
  z173 := Tryd.sizeOf135
  v173 := Tryd.zeroValue135
  t212 := Tryd.underlying141
  a212 := Tryd.isAgg141
  z212 := Tryd.sizeOf141
  v212 := Tryd.zeroValue141
  t213 := Tryd.underlying143
  a213 := Tryd.isAgg143
  z213 := Tryd.sizeOf143
  t232 := Tryd.underlying150
  a232 := Tryd.isAgg150
  z232 := Tryd.sizeOf150
  v232 := Tryd.zeroValue150
  t233 := Tryd.underlying151
  a233 := Tryd.isAgg151
  z233 := Tryd.sizeOf151
  v233 := Tryd.zeroValue151
  g17 := by kernel_rfl
  g18 := by kernel_rfl
  g19 := by kernel_rfl
  i0 := by kernel_rfl
  i2 := by kernel_rfl
  i3 := by kernel_rfl
  i4 := by kernel_rfl
  i5 := by kernel_rfl
  i9 := by kernel_rfl
  i20 := by kernel_rfl
  i37 := by kernel_rfl
  i46 := by kernel_rfl
  i51 := by kernel_rfl
  i53 := by kernel_rfl
  i171 := by kernel_rfl
  i173 := by kernel_rfl
  i212 := by kernel_rfl
  i232 := by kernel_rfl
  i233 := by kernel_rfl
  m17 := by kernel_rfl
  m18 := by kernel_rfl
  m19 := by kernel_rfl }
open Go.RowKit Go.Sort Go.Lib in
/-- internal/strconv.Itoa: "Itoa is equivalent to FormatInt(int64(i), 10).": i's decimal numeral, for every int. (LAID: no walk: one application.) -/
theorem Tryd.internal_strconv_Itoa (n : Int) (h0 : -9223372036854775808 ≤ n) (h1 : n ≤ 9223372036854775807) (w : World) (htab : Lib.TabIs Tryd.prog w "internal/strconv.uint64pow10" .u64 Lib.pow10Tab) :
    Calls Tryd.prog 65 #[.int .i64 n] w fun e w' => e = .returned (.string ⟨(Lib.itoa n).toArray⟩) ∧ ∃ k os, w' = grow (w.drewN k) os := Any.internal_strconv_Itoa Tryd.laysM243 n h0 h1 w htab
def Tryd.lays243_ren : Go.Shelf.Ren := ⟨fun | 243 => 65 | 246 => 88 | 283 => 102 | 284 => 103 | 285 => 104 | 286 => 105 | 129 => 114 | 317 => 113 | 318 => 115 | 319 => 116 | 320 => 117 | 337 => 123 | 338 => 124 | n => n, fun | 3 => 3 | 9 => 9 | 2 => 2 | 4 => 4 | 171 => 131 | 0 => 0 | 53 => 115 | 37 => 134 | 5 => 5 | 173 => 135 | 212 => 141 | 51 => 142 | 20 => 20 | 213 => 143 | 46 => 144 | 232 => 150 | 233 => 151 | n => n, fun | 17 => 0 | 18 => 2 | 19 => 3 | n => n⟩
theorem Tryd.lays243 : Go.Proofs.Lays.n243 Tryd.prog Tryd.lays243_ren := {
  mixed := by kernel_rfl
  f129 := Tryd.func114.trans (congrArg some (by kernel_rfl))
  f243 := Tryd.func65.trans (congrArg some (by kernel_rfl))
  f246 := Tryd.func88.trans (congrArg some (by kernel_rfl))
  f283 := Tryd.func102.trans (congrArg some (by kernel_rfl))
  f284 := Tryd.func103.trans (congrArg some (by kernel_rfl))
  f285 := Tryd.func104.trans (congrArg some (by kernel_rfl))
  f286 := Tryd.func105.trans (congrArg some (by kernel_rfl))
  f317 := Tryd.func113.trans (congrArg some (by kernel_rfl))
  f318 := Tryd.func115.trans (congrArg some (by kernel_rfl))
  f319 := Tryd.func116.trans (congrArg some (by kernel_rfl))
  f320 := Tryd.func117.trans (congrArg some (by kernel_rfl))
  f337 := Tryd.func123.trans (congrArg some (by kernel_rfl))
  f338 := Tryd.func124.trans (congrArg some (by kernel_rfl))
  t0 := Tryd.underlying0
  a0 := Tryd.isAgg0
  z0 := Tryd.sizeOf0
  v0 := Tryd.zeroValue0
  t2 := Tryd.underlying2
  a2 := Tryd.isAgg2
  z2 := Tryd.sizeOf2
  v2 := Tryd.zeroValue2
  t3 := Tryd.underlying3
  a3 := Tryd.isAgg3
  z3 := Tryd.sizeOf3
  v3 := Tryd.zeroValue3
  t4 := Tryd.underlying4
  a4 := Tryd.isAgg4
  z4 := Tryd.sizeOf4
  v4 := Tryd.zeroValue4
  t5 := Tryd.underlying5
  a5 := Tryd.isAgg5
  z5 := Tryd.sizeOf5
  v5 := Tryd.zeroValue5
  t9 := Tryd.underlying9
  a9 := Tryd.isAgg9
  z9 := Tryd.sizeOf9
  v9 := Tryd.zeroValue9
  t20 := Tryd.underlying20
  a20 := Tryd.isAgg20
  z20 := Tryd.sizeOf20
  v20 := Tryd.zeroValue20
  t37 := Tryd.underlying134
  a37 := Tryd.isAgg134
  z37 := Tryd.sizeOf134
  v37 := Tryd.zeroValue134
  t46 := Tryd.underlying144
  a46 := Tryd.isAgg144
  z46 := Tryd.sizeOf144
  v46 := Tryd.zeroValue144
  t51 := Tryd.underlying142
  a51 := Tryd.isAgg142
  z51 := Tryd.sizeOf142
  v51 := Tryd.zeroValue142
  t53 := Tryd.underlying115
  a53 := Tryd.isAgg115
  z53 := Tryd.sizeOf115
  v53 := Tryd.zeroValue115
  t171 := Tryd.underlying131
  a171 := Tryd.isAgg131
  z171 := Tryd.sizeOf131
  v171 := Tryd.zeroValue131
  t173 := Tryd.underlying135
  a173 := Tryd.isAgg135
  z173 := Tryd.sizeOf135
  v173 := Tryd.zeroValue135
  t212 := Tryd.underlying141
  a212 := Tryd.isAgg141
  z212 := Tryd.sizeOf141
  v212 := Tryd.zeroValue141
  t213 := Tryd.underlying143
  a213 := Tryd.isAgg143
  z213 := Tryd.sizeOf143
  t232 := Tryd.underlying150
  a232 := Tryd.isAgg150
  z232 := Tryd.sizeOf150
  v232 := Tryd.zeroValue150
  t233 := Tryd.underlying151
  a233 := Tryd.isAgg151
  z233 := Tryd.sizeOf151
  v233 := Tryd.zeroValue151
  g17 := by kernel_rfl
  g18 := by kernel_rfl
  g19 := by kernel_rfl }
open Go.RowKit Go.Sort Go.Lib in
/-- THE ROAD WITHOUT THE TABLE: 0 <= i < 100. (LAID: no walk: one application.) -/
theorem Tryd.internal_strconv_Itoa_small (i : Nat) (hi : i < 100) (w : World) :
    Calls Tryd.prog 65 #[.int .i64 i] w fun e w' => e = .returned (.string ⟨(Lib.decDigits i).toArray⟩) ∧ w' = w := Any.internal_strconv_Itoa_small Tryd.lays243 i hi w
def Tryd.laysM171_ren : Go.Shelf.Ren := ⟨fun | 171 => 44 | 243 => 65 | 246 => 88 | 283 => 102 | 284 => 103 | 285 => 104 | 286 => 105 | 129 => 114 | 317 => 113 | 318 => 115 | 319 => 116 | 320 => 117 | 337 => 123 | 338 => 124 | n => n, fun | 3 => 3 | 9 => 9 | 2 => 2 | 4 => 4 | 171 => 131 | 0 => 0 | 53 => 115 | 37 => 134 | 5 => 5 | 173 => 135 | 212 => 141 | 51 => 142 | 20 => 20 | 213 => 143 | 46 => 144 | 232 => 150 | 233 => 151 | n => n, fun | 17 => 0 | 18 => 2 | 19 => 3 | n => n⟩
theorem Tryd.laysM171 : Go.Proofs.LaysM.n171 Tryd.prog Tryd.laysM171_ren := {
  mixed := by kernel_rfl
  f129 := Tryd.func114.trans (congrArg some (by kernel_rfl))
  f171 := Tryd.func44.trans (congrArg some (by kernel_rfl))
  f243 := Tryd.func65.trans (congrArg some (by kernel_rfl))
  f246 := Tryd.func88.trans (congrArg some (by kernel_rfl))
  f283 := Tryd.func102.trans (congrArg some (by kernel_rfl))
  f284 := Tryd.func103.trans (congrArg some (by kernel_rfl))
  f285 := Tryd.func104.trans (congrArg some (by kernel_rfl))
  f286 := Tryd.func105.trans (congrArg some (by kernel_rfl))
  f317 := Tryd.func113.trans (congrArg some (by kernel_rfl))
  f318 := Tryd.func115.trans (congrArg some (by kernel_rfl))
  f319 := Tryd.func116.trans (congrArg some (by kernel_rfl))
  f320 := Tryd.func117.trans (congrArg some (by kernel_rfl))
  f337 := Tryd.func123.trans (congrArg some (by kernel_rfl))
  f338 := Tryd.func124.trans (congrArg some (by kernel_rfl))
  t0 := Tryd.underlying0
  a0 := Tryd.isAgg0
  z0 := Tryd.sizeOf0
  v0 := Tryd.zeroValue0
  t2 := Tryd.underlying2
  a2 := Tryd.isAgg2
  z2 := Tryd.sizeOf2
  v2 := Tryd.zeroValue2
  t3 := Tryd.underlying3
  a3 := Tryd.isAgg3
  z3 := Tryd.sizeOf3
  v3 := Tryd.zeroValue3
  t4 := Tryd.underlying4
  a4 := Tryd.isAgg4
  z4 := Tryd.sizeOf4
  v4 := Tryd.zeroValue4
  t5 := Tryd.underlying5
  a5 := Tryd.isAgg5
  z5 := Tryd.sizeOf5
  v5 := Tryd.zeroValue5
  t9 := Tryd.underlying9
  a9 := Tryd.isAgg9
  z9 := Tryd.sizeOf9
  v9 := Tryd.zeroValue9
  t20 := Tryd.underlying20
  a20 := Tryd.isAgg20
  z20 := Tryd.sizeOf20
  v20 := Tryd.zeroValue20
  t37 := Tryd.underlying134
  a37 := Tryd.isAgg134
  z37 := Tryd.sizeOf134
  v37 := Tryd.zeroValue134
  t46 := Tryd.underlying144
  a46 := Tryd.isAgg144
  z46 := Tryd.sizeOf144
  v46 := Tryd.zeroValue144
  t51 := Tryd.underlying142
  a51 := Tryd.isAgg142
  z51 := Tryd.sizeOf142
  v51 := Tryd.zeroValue142
  t53 := Tryd.underlying115
  a53 := Tryd.isAgg115
  z53 := Tryd.sizeOf115
  v53 := Tryd.zeroValue115
  t171 := Tryd.underlying131
  a171 := Tryd.isAgg131
  z171 := Tryd.sizeOf131
  v171 := Tryd.zeroValue131
  t173 := Tryd.underlying135
  a173 := Tryd.isAgg135
  z173 := Tryd.sizeOf135
  v173 := Tryd.zeroValue135
  t212 := Tryd.underlying141
  a212 := Tryd.isAgg141
  z212 := Tryd.sizeOf141
  v212 := Tryd.zeroValue141
  t213 := Tryd.underlying143
  a213 := Tryd.isAgg143
  z213 := Tryd.sizeOf143
  t232 := Tryd.underlying150
  a232 := Tryd.isAgg150
  z232 := Tryd.sizeOf150
  v232 := Tryd.zeroValue150
  t233 := Tryd.underlying151
  a233 := Tryd.isAgg151
  z233 := Tryd.sizeOf151
  v233 := Tryd.zeroValue151
  g17 := by kernel_rfl
  g18 := by kernel_rfl
  g19 := by kernel_rfl
  i0 := by kernel_rfl
  i2 := by kernel_rfl
  i3 := by kernel_rfl
  i4 := by kernel_rfl
  i5 := by kernel_rfl
  i9 := by kernel_rfl
  i20 := by kernel_rfl
  i37 := by kernel_rfl
  i46 := by kernel_rfl
  i51 := by kernel_rfl
  i53 := by kernel_rfl
  i171 := by kernel_rfl
  i173 := by kernel_rfl
  i212 := by kernel_rfl
  i232 := by kernel_rfl
  i233 := by kernel_rfl
  m17 := by kernel_rfl
  m18 := by kernel_rfl
  m19 := by kernel_rfl }
open Go.RowKit Go.Sort Go.Lib in
/-- strconv.Itoa: "Itoa is equivalent to FormatInt(int64(i), 10).": i's DECIMAL NUMERAL ('Lib.itoa': a '-' where i is negative, then the digits), FOR EVERY int. The world behind the call: the world before it, new blocks behind the heap (the library's 'var a [24]byte'), draws. (LAID: no walk: one application.) -/
theorem Tryd.strconv_Itoa (n : Int) (h0 : -9223372036854775808 ≤ n) (h1 : n ≤ 9223372036854775807) (w : World) (htab : Lib.TabIs Tryd.prog w "internal/strconv.uint64pow10" .u64 Lib.pow10Tab) :
    Calls Tryd.prog 44 #[.int .i64 n] w fun e w' => e = .returned (.string ⟨(Lib.itoa n).toArray⟩) ∧ ∃ k os, w' = grow (w.drewN k) os := Any.strconv_Itoa Tryd.laysM171 n h0 h1 w htab
def Tryd.lays171_ren : Go.Shelf.Ren := ⟨fun | 171 => 44 | 243 => 65 | 246 => 88 | 283 => 102 | 284 => 103 | 285 => 104 | 286 => 105 | 129 => 114 | 317 => 113 | 318 => 115 | 319 => 116 | 320 => 117 | 337 => 123 | 338 => 124 | n => n, fun | 3 => 3 | 9 => 9 | 2 => 2 | 4 => 4 | 171 => 131 | 0 => 0 | 53 => 115 | 37 => 134 | 5 => 5 | 173 => 135 | 212 => 141 | 51 => 142 | 20 => 20 | 213 => 143 | 46 => 144 | 232 => 150 | 233 => 151 | n => n, fun | 17 => 0 | 18 => 2 | 19 => 3 | n => n⟩
theorem Tryd.lays171 : Go.Proofs.Lays.n171 Tryd.prog Tryd.lays171_ren := {
  mixed := by kernel_rfl
  f129 := Tryd.func114.trans (congrArg some (by kernel_rfl))
  f171 := Tryd.func44.trans (congrArg some (by kernel_rfl))
  f243 := Tryd.func65.trans (congrArg some (by kernel_rfl))
  f246 := Tryd.func88.trans (congrArg some (by kernel_rfl))
  f283 := Tryd.func102.trans (congrArg some (by kernel_rfl))
  f284 := Tryd.func103.trans (congrArg some (by kernel_rfl))
  f285 := Tryd.func104.trans (congrArg some (by kernel_rfl))
  f286 := Tryd.func105.trans (congrArg some (by kernel_rfl))
  f317 := Tryd.func113.trans (congrArg some (by kernel_rfl))
  f318 := Tryd.func115.trans (congrArg some (by kernel_rfl))
  f319 := Tryd.func116.trans (congrArg some (by kernel_rfl))
  f320 := Tryd.func117.trans (congrArg some (by kernel_rfl))
  f337 := Tryd.func123.trans (congrArg some (by kernel_rfl))
  f338 := Tryd.func124.trans (congrArg some (by kernel_rfl))
  t0 := Tryd.underlying0
  a0 := Tryd.isAgg0
  z0 := Tryd.sizeOf0
  v0 := Tryd.zeroValue0
  t2 := Tryd.underlying2
  a2 := Tryd.isAgg2
  z2 := Tryd.sizeOf2
  v2 := Tryd.zeroValue2
  t3 := Tryd.underlying3
  a3 := Tryd.isAgg3
  z3 := Tryd.sizeOf3
  v3 := Tryd.zeroValue3
  t4 := Tryd.underlying4
  a4 := Tryd.isAgg4
  z4 := Tryd.sizeOf4
  v4 := Tryd.zeroValue4
  t5 := Tryd.underlying5
  a5 := Tryd.isAgg5
  z5 := Tryd.sizeOf5
  v5 := Tryd.zeroValue5
  t9 := Tryd.underlying9
  a9 := Tryd.isAgg9
  z9 := Tryd.sizeOf9
  v9 := Tryd.zeroValue9
  t20 := Tryd.underlying20
  a20 := Tryd.isAgg20
  z20 := Tryd.sizeOf20
  v20 := Tryd.zeroValue20
  t37 := Tryd.underlying134
  a37 := Tryd.isAgg134
  z37 := Tryd.sizeOf134
  v37 := Tryd.zeroValue134
  t46 := Tryd.underlying144
  a46 := Tryd.isAgg144
  z46 := Tryd.sizeOf144
  v46 := Tryd.zeroValue144
  t51 := Tryd.underlying142
  a51 := Tryd.isAgg142
  z51 := Tryd.sizeOf142
  v51 := Tryd.zeroValue142
  t53 := Tryd.underlying115
  a53 := Tryd.isAgg115
  z53 := Tryd.sizeOf115
  v53 := Tryd.zeroValue115
  t171 := Tryd.underlying131
  a171 := Tryd.isAgg131
  z171 := Tryd.sizeOf131
  v171 := Tryd.zeroValue131
  t173 := Tryd.underlying135
  a173 := Tryd.isAgg135
  z173 := Tryd.sizeOf135
  v173 := Tryd.zeroValue135
  t212 := Tryd.underlying141
  a212 := Tryd.isAgg141
  z212 := Tryd.sizeOf141
  v212 := Tryd.zeroValue141
  t213 := Tryd.underlying143
  a213 := Tryd.isAgg143
  z213 := Tryd.sizeOf143
  t232 := Tryd.underlying150
  a232 := Tryd.isAgg150
  z232 := Tryd.sizeOf150
  v232 := Tryd.zeroValue150
  t233 := Tryd.underlying151
  a233 := Tryd.isAgg151
  z233 := Tryd.sizeOf151
  v233 := Tryd.zeroValue151
  g17 := by kernel_rfl
  g18 := by kernel_rfl
  g19 := by kernel_rfl }
open Go.RowKit Go.Sort Go.Lib in
/-- THE ROAD WITHOUT THE TABLE: 0 <= i < 100: NO PREMISE ON THE WORLD, AND THE WORLD IS AS IT WAS: a row that keeps its argument in that range need list no table ('laid = []'). (LAID: no walk: one application.) -/
theorem Tryd.strconv_Itoa_small (i : Nat) (hi : i < 100) (w : World) :
    Calls Tryd.prog 44 #[.int .i64 i] w fun e w' => e = .returned (.string ⟨(Lib.decDigits i).toArray⟩) ∧ w' = w := Any.strconv_Itoa_small Tryd.lays171 i hi w
def Tryd.lays217_ren : Go.Shelf.Ren := ⟨fun | 217 => 119 | 266 => 126 | n => n, fun | 9 => 9 | 5 => 5 | 3 => 3 | n => n, fun | n => n⟩
theorem Tryd.lays217 : Go.Proofs.Lays.n217 Tryd.prog Tryd.lays217_ren := {
  mixed := by kernel_rfl
  f217 := Tryd.func119.trans (congrArg some (by kernel_rfl))
  f266 := Tryd.func126.trans (congrArg some (by kernel_rfl))
  t3 := Tryd.underlying3
  a3 := Tryd.isAgg3
  z3 := Tryd.sizeOf3
  v3 := Tryd.zeroValue3
  t5 := Tryd.underlying5
  a5 := Tryd.isAgg5
  z5 := Tryd.sizeOf5
  v5 := Tryd.zeroValue5
  t9 := Tryd.underlying9
  a9 := Tryd.isAgg9
  z9 := Tryd.sizeOf9
  v9 := Tryd.zeroValue9 }
open Go.RowKit Go.Lib in
/-- internal/stringslite.IndexByte (what strings.IndexByte calls): IT RETURNS 'Lib.indexByte s c'; the world is as it was. (LAID: no walk: one application.) -/
theorem Tryd.stringslite_IndexByte (s : ByteArray) (c : Int) (w : World) :
    Calls Tryd.prog 119 #[.string s, .int .u8 c] w fun e w' => e = .returned (.int .i64 (Lib.indexByte s.data.toList c.toNat.toUInt8)) ∧ w' = w := Any.stringslite_IndexByte Tryd.lays217 s c w
def Tryd.lays224_ren : Go.Shelf.Ren := ⟨fun | 224 => 121 | n => n, fun | 3 => 3 | n => n, fun | n => n⟩
theorem Tryd.lays224 : Go.Proofs.Lays.n224 Tryd.prog Tryd.lays224_ren := {
  mixed := by kernel_rfl
  f224 := Tryd.func121.trans (congrArg some (by kernel_rfl))
  t3 := Tryd.underlying3
  a3 := Tryd.isAgg3
  z3 := Tryd.sizeOf3
  v3 := Tryd.zeroValue3 }
open Go.RowKit Go.Lib in
/-- internal/bytealg.Cutover: "Cutover reports the number of failures of IndexByte we should tolerate before switching over to Index. n is the number of bytes processed so far.": on amd64: (n + 16) / 8. (LAID: no walk: one application.) -/
theorem Tryd.bytealg_Cutover (n : Int) (h0 : 0 ≤ n) (h1 : n < 4611686018427387904) (w : World) :
    Calls Tryd.prog 121 #[.int .i64 n] w fun e w' => e = .returned (.int .i64 ((n + 16) / 8)) ∧ w' = w := Any.bytealg_Cutover Tryd.lays224 n h0 h1 w
def Tryd.lays314_ren : Go.Shelf.Ren := ⟨fun | 314 => 127 | n => n, fun | 9 => 9 | 51 => 142 | 3 => 3 | 4 => 4 | 5 => 5 | 46 => 144 | n => n, fun | n => n⟩
theorem Tryd.lays314 : Go.Proofs.Lays.n314 Tryd.prog Tryd.lays314_ren := {
  mixed := by kernel_rfl
  f314 := Tryd.func127.trans (congrArg some (by kernel_rfl))
  t3 := Tryd.underlying3
  a3 := Tryd.isAgg3
  z3 := Tryd.sizeOf3
  v3 := Tryd.zeroValue3
  t4 := Tryd.underlying4
  a4 := Tryd.isAgg4
  z4 := Tryd.sizeOf4
  v4 := Tryd.zeroValue4
  t5 := Tryd.underlying5
  a5 := Tryd.isAgg5
  z5 := Tryd.sizeOf5
  v5 := Tryd.zeroValue5
  t9 := Tryd.underlying9
  a9 := Tryd.isAgg9
  z9 := Tryd.sizeOf9
  v9 := Tryd.zeroValue9
  t46 := Tryd.underlying144
  a46 := Tryd.isAgg144
  z46 := Tryd.sizeOf144
  v46 := Tryd.zeroValue144
  t51 := Tryd.underlying142
  a51 := Tryd.isAgg142
  z51 := Tryd.sizeOf142
  v51 := Tryd.zeroValue142 }
open Go.RowKit Go.Lib in
/-- hashStr: "returns the hash and the appropriate multiplicative factor for use in Rabin-Karp algorithm": THE HASH OF ALL OF sep, AND 16777619 ^ len(sep), both in uint32. (LAID: no walk: one application.) -/
theorem Tryd.bytealg_hashStr (sep : ByteArray) (hs : sep.size < 4294967281) (w : World) :
    Calls Tryd.prog 127 #[.string sep] w fun e w' => e = .returned (.tuple #[.int .u32 (RK.H sep.data.toList % 4294967296), .int .u32 (16777619 ^ sep.size % 4294967296)]) ∧ w' = w := Any.bytealg_hashStr Tryd.lays314 sep hs w
def Tryd.lays267_ren : Go.Shelf.Ren := ⟨fun | 267 => 122 | 314 => 127 | n => n, fun | 9 => 9 | 3 => 3 | 146 => 148 | 51 => 142 | 4 => 4 | 5 => 5 | 46 => 144 | n => n, fun | n => n⟩
theorem Tryd.lays267 : Go.Proofs.Lays.n267 Tryd.prog Tryd.lays267_ren := {
  mixed := by kernel_rfl
  f267 := Tryd.func122.trans (congrArg some (by kernel_rfl))
  f314 := Tryd.func127.trans (congrArg some (by kernel_rfl))
  t3 := Tryd.underlying3
  a3 := Tryd.isAgg3
  z3 := Tryd.sizeOf3
  v3 := Tryd.zeroValue3
  t4 := Tryd.underlying4
  a4 := Tryd.isAgg4
  z4 := Tryd.sizeOf4
  v4 := Tryd.zeroValue4
  t5 := Tryd.underlying5
  a5 := Tryd.isAgg5
  z5 := Tryd.sizeOf5
  v5 := Tryd.zeroValue5
  t9 := Tryd.underlying9
  a9 := Tryd.isAgg9
  z9 := Tryd.sizeOf9
  v9 := Tryd.zeroValue9
  t46 := Tryd.underlying144
  a46 := Tryd.isAgg144
  z46 := Tryd.sizeOf144
  v46 := Tryd.zeroValue144
  t51 := Tryd.underlying142
  a51 := Tryd.isAgg142
  z51 := Tryd.sizeOf142
  v51 := Tryd.zeroValue142
  t146 := Tryd.underlying148
  a146 := Tryd.isAgg148
  z146 := Tryd.sizeOf148
  v146 := Tryd.zeroValue148 }
open Go.RowKit Go.Lib in
theorem Tryd.bytealg_IndexRabinKarp (s sep : ByteArray) (h1 : 1 ≤ sep.size) (h2 : sep.size ≤ s.size) (hs : s.size < 4294967281) (w : World) :
    Calls Tryd.prog 122 #[.string s, .string sep] w fun e w' => e = .returned (.int .i64 (Lib.index s.data.toList sep.data.toList)) ∧ w' = w := Any.bytealg_IndexRabinKarp Tryd.lays267 s sep h1 h2 hs w
def Tryd.lays219_ren : Go.Shelf.Ren := ⟨fun | 219 => 112 | 217 => 119 | 225 => 120 | 224 => 121 | 267 => 122 | 266 => 126 | 314 => 127 | n => n, fun | 9 => 9 | 3 => 3 | 4 => 4 | 5 => 5 | 46 => 144 | 146 => 148 | 51 => 142 | n => n, fun | 1 => 1 | n => n⟩
theorem Tryd.lays219 : Go.Proofs.Lays.n219 Tryd.prog Tryd.lays219_ren := {
  mixed := by kernel_rfl
  f217 := Tryd.func119.trans (congrArg some (by kernel_rfl))
  f219 := Tryd.func112.trans (congrArg some (by kernel_rfl))
  f224 := Tryd.func121.trans (congrArg some (by kernel_rfl))
  f225 := Tryd.func120.trans (congrArg some (by kernel_rfl))
  f266 := Tryd.func126.trans (congrArg some (by kernel_rfl))
  f267 := Tryd.func122.trans (congrArg some (by kernel_rfl))
  f314 := Tryd.func127.trans (congrArg some (by kernel_rfl))
  t3 := Tryd.underlying3
  a3 := Tryd.isAgg3
  z3 := Tryd.sizeOf3
  v3 := Tryd.zeroValue3
  t4 := Tryd.underlying4
  a4 := Tryd.isAgg4
  z4 := Tryd.sizeOf4
  v4 := Tryd.zeroValue4
  t5 := Tryd.underlying5
  a5 := Tryd.isAgg5
  z5 := Tryd.sizeOf5
  v5 := Tryd.zeroValue5
  t9 := Tryd.underlying9
  a9 := Tryd.isAgg9
  z9 := Tryd.sizeOf9
  v9 := Tryd.zeroValue9
  t46 := Tryd.underlying144
  a46 := Tryd.isAgg144
  z46 := Tryd.sizeOf144
  v46 := Tryd.zeroValue144
  t51 := Tryd.underlying142
  a51 := Tryd.isAgg142
  z51 := Tryd.sizeOf142
  v51 := Tryd.zeroValue142
  t146 := Tryd.underlying148
  a146 := Tryd.isAgg148
  z146 := Tryd.sizeOf148
  v146 := Tryd.zeroValue148
  g1 := by kernel_rfl }
open Go.RowKit Go.Lib in
/-- internal/stringslite.Index (what strings.Index calls) AT A substr OF ONE BYTE c: IT RETURNS 'Lib.indexByte s c'; the world is as it was. (LAID: no walk: one application.) -/
theorem Tryd.stringslite_Index_one (s : ByteArray) (c : UInt8) (w : World) :
    Calls Tryd.prog 112 #[.string s, .string ⟨#[c]⟩] w fun e w' => e = .returned (.int .i64 (Lib.indexByte s.data.toList c)) ∧ w' = w := Any.stringslite_Index_one Tryd.lays219 s c w
open Go.RowKit Go.Lib in
/-- internal/stringslite.Index (what strings.Index calls) AT A substr OF WHATEVER LENGTH: IT RETURNS 'Lib.index s substr'; the world is as it was. 'm': what internal/bytealg.MaxLen holds: whatever. (LAID: no walk: one application.) -/
theorem Tryd.stringslite_Index (s sub : ByteArray) (m : Int) (w : World) (hs : s.size < 4294967281) (hm : w.cell? ⟨1, 0, none⟩ = some (.int .i64 m)) :
    Calls Tryd.prog 112 #[.string s, .string sub] w fun e w' => e = .returned (.int .i64 (Lib.index s.data.toList sub.data.toList)) ∧ w' = w := Any.stringslite_Index Tryd.lays219 s sub m w hs hm
def Tryd.lays220_ren : Go.Shelf.Ren := ⟨fun | 220 => 101 | 219 => 112 | 217 => 119 | 225 => 120 | 224 => 121 | 267 => 122 | 266 => 126 | 314 => 127 | n => n, fun | 9 => 9 | 4 => 4 | 3 => 3 | 5 => 5 | 46 => 144 | 146 => 148 | 51 => 142 | n => n, fun | 1 => 1 | n => n⟩
theorem Tryd.lays220 : Go.Proofs.Lays.n220 Tryd.prog Tryd.lays220_ren := {
  mixed := by kernel_rfl
  f217 := Tryd.func119.trans (congrArg some (by kernel_rfl))
  f219 := Tryd.func112.trans (congrArg some (by kernel_rfl))
  f220 := Tryd.func101.trans (congrArg some (by kernel_rfl))
  f224 := Tryd.func121.trans (congrArg some (by kernel_rfl))
  f225 := Tryd.func120.trans (congrArg some (by kernel_rfl))
  f266 := Tryd.func126.trans (congrArg some (by kernel_rfl))
  f267 := Tryd.func122.trans (congrArg some (by kernel_rfl))
  f314 := Tryd.func127.trans (congrArg some (by kernel_rfl))
  t3 := Tryd.underlying3
  a3 := Tryd.isAgg3
  z3 := Tryd.sizeOf3
  v3 := Tryd.zeroValue3
  t4 := Tryd.underlying4
  a4 := Tryd.isAgg4
  z4 := Tryd.sizeOf4
  v4 := Tryd.zeroValue4
  t5 := Tryd.underlying5
  a5 := Tryd.isAgg5
  z5 := Tryd.sizeOf5
  v5 := Tryd.zeroValue5
  t9 := Tryd.underlying9
  a9 := Tryd.isAgg9
  z9 := Tryd.sizeOf9
  v9 := Tryd.zeroValue9
  t46 := Tryd.underlying144
  a46 := Tryd.isAgg144
  z46 := Tryd.sizeOf144
  v46 := Tryd.zeroValue144
  t51 := Tryd.underlying142
  a51 := Tryd.isAgg142
  z51 := Tryd.sizeOf142
  v51 := Tryd.zeroValue142
  t146 := Tryd.underlying148
  a146 := Tryd.isAgg148
  z146 := Tryd.sizeOf148
  v146 := Tryd.zeroValue148
  g1 := by kernel_rfl }
open Go.RowKit Go.Lib in
/-- internal/stringslite.Cut (what strings.Cut calls): IT RETURNS 'Lib.cut s sep'; the world is as it was but for the count of draws. (LAID: no walk: one application.) -/
theorem Tryd.stringslite_Cut (s sep : ByteArray) (m : Int) (w : World) (hs : s.size < 4294967281) (hm : w.cell? ⟨1, 0, none⟩ = some (.int .i64 m)) :
    Calls Tryd.prog 101 #[.string s, .string sep] w fun e w' => e = .returned (.tuple #[.string ⟨(Lib.cut s.data.toList sep.data.toList).1.toArray⟩, .string ⟨(Lib.cut s.data.toList sep.data.toList).2.1.toArray⟩, .bool (Lib.cut s.data.toList sep.data.toList).2.2]) ∧ ∃ n, w' = w.drewN n := Any.stringslite_Cut Tryd.lays220 s sep m w hs hm
def Tryd.lays145_ren : Go.Shelf.Ren := ⟨fun | 145 => 86 | 220 => 101 | 219 => 112 | 217 => 119 | 225 => 120 | 224 => 121 | 267 => 122 | 266 => 126 | 314 => 127 | n => n, fun | 9 => 9 | 4 => 4 | 59 => 123 | 3 => 3 | 5 => 5 | 46 => 144 | 146 => 148 | 51 => 142 | n => n, fun | 1 => 1 | n => n⟩
theorem Tryd.lays145 : Go.Proofs.Lays.n145 Tryd.prog Tryd.lays145_ren := {
  mixed := by kernel_rfl
  f145 := Tryd.func86.trans (congrArg some (by kernel_rfl))
  f217 := Tryd.func119.trans (congrArg some (by kernel_rfl))
  f219 := Tryd.func112.trans (congrArg some (by kernel_rfl))
  f220 := Tryd.func101.trans (congrArg some (by kernel_rfl))
  f224 := Tryd.func121.trans (congrArg some (by kernel_rfl))
  f225 := Tryd.func120.trans (congrArg some (by kernel_rfl))
  f266 := Tryd.func126.trans (congrArg some (by kernel_rfl))
  f267 := Tryd.func122.trans (congrArg some (by kernel_rfl))
  f314 := Tryd.func127.trans (congrArg some (by kernel_rfl))
  t3 := Tryd.underlying3
  a3 := Tryd.isAgg3
  z3 := Tryd.sizeOf3
  v3 := Tryd.zeroValue3
  t4 := Tryd.underlying4
  a4 := Tryd.isAgg4
  z4 := Tryd.sizeOf4
  v4 := Tryd.zeroValue4
  t5 := Tryd.underlying5
  a5 := Tryd.isAgg5
  z5 := Tryd.sizeOf5
  v5 := Tryd.zeroValue5
  t9 := Tryd.underlying9
  a9 := Tryd.isAgg9
  z9 := Tryd.sizeOf9
  v9 := Tryd.zeroValue9
  t46 := Tryd.underlying144
  a46 := Tryd.isAgg144
  z46 := Tryd.sizeOf144
  v46 := Tryd.zeroValue144
  t51 := Tryd.underlying142
  a51 := Tryd.isAgg142
  z51 := Tryd.sizeOf142
  v51 := Tryd.zeroValue142
  t59 := Tryd.underlying123
  a59 := Tryd.isAgg123
  z59 := Tryd.sizeOf123
  v59 := Tryd.zeroValue123
  t146 := Tryd.underlying148
  a146 := Tryd.isAgg148
  z146 := Tryd.sizeOf148
  v146 := Tryd.zeroValue148
  g1 := by kernel_rfl }
open Go.RowKit Go.Lib in
/-- strings.Cut: "Cut slices s around the first instance of sep, returning the text before and after sep. The found result reports whether sep appears in s. If sep does not appear in s, cut returns s, "", false.": IT RETURNS 'Lib.cut s sep'; the world is as it was but for the count of draws. (LAID: no walk: one application.) -/
theorem Tryd.strings_Cut (s sep : ByteArray) (m : Int) (w : World) (hs : s.size < 4294967281) (hm : w.cell? ⟨1, 0, none⟩ = some (.int .i64 m)) :
    Calls Tryd.prog 86 #[.string s, .string sep] w fun e w' => e = .returned (.tuple #[.string ⟨(Lib.cut s.data.toList sep.data.toList).1.toArray⟩, .string ⟨(Lib.cut s.data.toList sep.data.toList).2.1.toArray⟩, .bool (Lib.cut s.data.toList sep.data.toList).2.2]) ∧ ∃ n, w' = w.drewN n := Any.strings_Cut Tryd.lays145 s sep m w hs hm
def Tryd.laysM219_ren : Go.Shelf.Ren := ⟨fun | 219 => 112 | 217 => 119 | 225 => 120 | 224 => 121 | 267 => 122 | 266 => 126 | 314 => 127 | n => n, fun | 9 => 9 | 3 => 3 | 4 => 4 | 5 => 5 | 46 => 144 | 146 => 148 | 51 => 142 | n => n, fun | 1 => 1 | n => n⟩
theorem Tryd.laysM219 : Go.Proofs.LaysM.n219 Tryd.prog Tryd.laysM219_ren := {
  mixed := by kernel_rfl
  f217 := Tryd.func119.trans (congrArg some (by kernel_rfl))
  f219 := Tryd.func112.trans (congrArg some (by kernel_rfl))
  f224 := Tryd.func121.trans (congrArg some (by kernel_rfl))
  f225 := Tryd.func120.trans (congrArg some (by kernel_rfl))
  f266 := Tryd.func126.trans (congrArg some (by kernel_rfl))
  f267 := Tryd.func122.trans (congrArg some (by kernel_rfl))
  f314 := Tryd.func127.trans (congrArg some (by kernel_rfl))
  t3 := Tryd.underlying3
  a3 := Tryd.isAgg3
  z3 := Tryd.sizeOf3
  v3 := Tryd.zeroValue3
  t4 := Tryd.underlying4
  a4 := Tryd.isAgg4
  z4 := Tryd.sizeOf4
  v4 := Tryd.zeroValue4
  t5 := Tryd.underlying5
  a5 := Tryd.isAgg5
  z5 := Tryd.sizeOf5
  v5 := Tryd.zeroValue5
  t9 := Tryd.underlying9
  a9 := Tryd.isAgg9
  z9 := Tryd.sizeOf9
  v9 := Tryd.zeroValue9
  t46 := Tryd.underlying144
  a46 := Tryd.isAgg144
  z46 := Tryd.sizeOf144
  v46 := Tryd.zeroValue144
  t51 := Tryd.underlying142
  a51 := Tryd.isAgg142
  z51 := Tryd.sizeOf142
  v51 := Tryd.zeroValue142
  t146 := Tryd.underlying148
  a146 := Tryd.isAgg148
  z146 := Tryd.sizeOf148
  v146 := Tryd.zeroValue148
  g1 := by kernel_rfl
  i3 := by kernel_rfl
  i4 := by kernel_rfl
  i5 := by kernel_rfl
  i9 := by kernel_rfl
  i46 := by kernel_rfl
  i51 := by kernel_rfl
  i146 := by kernel_rfl
  m1 := by kernel_rfl
  s1_3 := fun w h => Go.Proofs.cell_of_shapedOpen_int (zero := #[.int .i64 0]) (t := 3) h (of_decide_eq_true (by kernel_rfl)) (by kernel_rfl) rfl (by kernel_rfl) (by kernel_rfl) Tryd.underlying3 }
open Go.RowKit Go.Lib in
theorem Tryd.stringslite_Index_shaped (s sub : ByteArray) (w : World) (h : w.ShapedOpen Tryd.prog) (hs : s.size < 4294967281) :
    Calls Tryd.prog 112 #[.string s, .string sub] w fun e w' => e = .returned (.int .i64 (Lib.index s.data.toList sub.data.toList)) ∧ w' = w := Any.stringslite_Index_shaped Tryd.laysM219 s sub w h hs
def Tryd.laysM220_ren : Go.Shelf.Ren := ⟨fun | 220 => 101 | 219 => 112 | 217 => 119 | 225 => 120 | 224 => 121 | 267 => 122 | 266 => 126 | 314 => 127 | n => n, fun | 9 => 9 | 4 => 4 | 3 => 3 | 5 => 5 | 46 => 144 | 146 => 148 | 51 => 142 | n => n, fun | 1 => 1 | n => n⟩
theorem Tryd.laysM220 : Go.Proofs.LaysM.n220 Tryd.prog Tryd.laysM220_ren := {
  mixed := by kernel_rfl
  f217 := Tryd.func119.trans (congrArg some (by kernel_rfl))
  f219 := Tryd.func112.trans (congrArg some (by kernel_rfl))
  f220 := Tryd.func101.trans (congrArg some (by kernel_rfl))
  f224 := Tryd.func121.trans (congrArg some (by kernel_rfl))
  f225 := Tryd.func120.trans (congrArg some (by kernel_rfl))
  f266 := Tryd.func126.trans (congrArg some (by kernel_rfl))
  f267 := Tryd.func122.trans (congrArg some (by kernel_rfl))
  f314 := Tryd.func127.trans (congrArg some (by kernel_rfl))
  t3 := Tryd.underlying3
  a3 := Tryd.isAgg3
  z3 := Tryd.sizeOf3
  v3 := Tryd.zeroValue3
  t4 := Tryd.underlying4
  a4 := Tryd.isAgg4
  z4 := Tryd.sizeOf4
  v4 := Tryd.zeroValue4
  t5 := Tryd.underlying5
  a5 := Tryd.isAgg5
  z5 := Tryd.sizeOf5
  v5 := Tryd.zeroValue5
  t9 := Tryd.underlying9
  a9 := Tryd.isAgg9
  z9 := Tryd.sizeOf9
  v9 := Tryd.zeroValue9
  t46 := Tryd.underlying144
  a46 := Tryd.isAgg144
  z46 := Tryd.sizeOf144
  v46 := Tryd.zeroValue144
  t51 := Tryd.underlying142
  a51 := Tryd.isAgg142
  z51 := Tryd.sizeOf142
  v51 := Tryd.zeroValue142
  t146 := Tryd.underlying148
  a146 := Tryd.isAgg148
  z146 := Tryd.sizeOf148
  v146 := Tryd.zeroValue148
  g1 := by kernel_rfl
  i3 := by kernel_rfl
  i4 := by kernel_rfl
  i5 := by kernel_rfl
  i9 := by kernel_rfl
  i46 := by kernel_rfl
  i51 := by kernel_rfl
  i146 := by kernel_rfl
  m1 := by kernel_rfl
  s1_3 := fun w h => Go.Proofs.cell_of_shapedOpen_int (zero := #[.int .i64 0]) (t := 3) h (of_decide_eq_true (by kernel_rfl)) (by kernel_rfl) rfl (by kernel_rfl) (by kernel_rfl) Tryd.underlying3 }
open Go.RowKit Go.Lib in
theorem Tryd.stringslite_Cut_shaped (s sep : ByteArray) (w : World) (h : w.ShapedOpen Tryd.prog) (hs : s.size < 4294967281) :
    Calls Tryd.prog 101 #[.string s, .string sep] w fun e w' => e = .returned (.tuple #[.string ⟨(Lib.cut s.data.toList sep.data.toList).1.toArray⟩, .string ⟨(Lib.cut s.data.toList sep.data.toList).2.1.toArray⟩, .bool (Lib.cut s.data.toList sep.data.toList).2.2]) ∧ ∃ n, w' = w.drewN n := Any.stringslite_Cut_shaped Tryd.laysM220 s sep w h hs
def Tryd.laysM145_ren : Go.Shelf.Ren := ⟨fun | 145 => 86 | 220 => 101 | 219 => 112 | 217 => 119 | 225 => 120 | 224 => 121 | 267 => 122 | 266 => 126 | 314 => 127 | n => n, fun | 9 => 9 | 4 => 4 | 59 => 123 | 3 => 3 | 5 => 5 | 46 => 144 | 146 => 148 | 51 => 142 | n => n, fun | 1 => 1 | n => n⟩
theorem Tryd.laysM145 : Go.Proofs.LaysM.n145 Tryd.prog Tryd.laysM145_ren := {
  mixed := by kernel_rfl
  f145 := Tryd.func86.trans (congrArg some (by kernel_rfl))
  f217 := Tryd.func119.trans (congrArg some (by kernel_rfl))
  f219 := Tryd.func112.trans (congrArg some (by kernel_rfl))
  f220 := Tryd.func101.trans (congrArg some (by kernel_rfl))
  f224 := Tryd.func121.trans (congrArg some (by kernel_rfl))
  f225 := Tryd.func120.trans (congrArg some (by kernel_rfl))
  f266 := Tryd.func126.trans (congrArg some (by kernel_rfl))
  f267 := Tryd.func122.trans (congrArg some (by kernel_rfl))
  f314 := Tryd.func127.trans (congrArg some (by kernel_rfl))
  t3 := Tryd.underlying3
  a3 := Tryd.isAgg3
  z3 := Tryd.sizeOf3
  v3 := Tryd.zeroValue3
  t4 := Tryd.underlying4
  a4 := Tryd.isAgg4
  z4 := Tryd.sizeOf4
  v4 := Tryd.zeroValue4
  t5 := Tryd.underlying5
  a5 := Tryd.isAgg5
  z5 := Tryd.sizeOf5
  v5 := Tryd.zeroValue5
  t9 := Tryd.underlying9
  a9 := Tryd.isAgg9
  z9 := Tryd.sizeOf9
  v9 := Tryd.zeroValue9
  t46 := Tryd.underlying144
  a46 := Tryd.isAgg144
  z46 := Tryd.sizeOf144
  v46 := Tryd.zeroValue144
  t51 := Tryd.underlying142
  a51 := Tryd.isAgg142
  z51 := Tryd.sizeOf142
  v51 := Tryd.zeroValue142
  t59 := Tryd.underlying123
  a59 := Tryd.isAgg123
  z59 := Tryd.sizeOf123
  v59 := Tryd.zeroValue123
  t146 := Tryd.underlying148
  a146 := Tryd.isAgg148
  z146 := Tryd.sizeOf148
  v146 := Tryd.zeroValue148
  g1 := by kernel_rfl
  i3 := by kernel_rfl
  i4 := by kernel_rfl
  i5 := by kernel_rfl
  i9 := by kernel_rfl
  i46 := by kernel_rfl
  i51 := by kernel_rfl
  i59 := by kernel_rfl
  i146 := by kernel_rfl
  m1 := by kernel_rfl
  s1_3 := fun w h => Go.Proofs.cell_of_shapedOpen_int (zero := #[.int .i64 0]) (t := 3) h (of_decide_eq_true (by kernel_rfl)) (by kernel_rfl) rfl (by kernel_rfl) (by kernel_rfl) Tryd.underlying3 }
open Go.RowKit Go.Lib in
theorem Tryd.strings_Cut_shaped (s sep : ByteArray) (w : World) (h : w.ShapedOpen Tryd.prog) (hs : s.size < 4294967281) :
    Calls Tryd.prog 86 #[.string s, .string sep] w fun e w' => e = .returned (.tuple #[.string ⟨(Lib.cut s.data.toList sep.data.toList).1.toArray⟩, .string ⟨(Lib.cut s.data.toList sep.data.toList).2.1.toArray⟩, .bool (Lib.cut s.data.toList sep.data.toList).2.2]) ∧ ∃ n, w' = w.drewN n := Any.strings_Cut_shaped Tryd.laysM145 s sep w h hs
def Tryd.lays206_ren : Go.Shelf.Ren := ⟨fun | 206 => 109 | n => n, fun | 9 => 9 | 4 => 4 | 3 => 3 | n => n, fun | n => n⟩
theorem Tryd.lays206 : Go.Proofs.Lays.n206 Tryd.prog Tryd.lays206_ren := {
  mixed := by kernel_rfl
  f206 := Tryd.func109.trans (congrArg some (by kernel_rfl))
  t3 := Tryd.underlying3
  a3 := Tryd.isAgg3
  z3 := Tryd.sizeOf3
  v3 := Tryd.zeroValue3
  t4 := Tryd.underlying4
  a4 := Tryd.isAgg4
  z4 := Tryd.sizeOf4
  v4 := Tryd.zeroValue4
  t9 := Tryd.underlying9
  a9 := Tryd.isAgg9
  z9 := Tryd.sizeOf9
  v9 := Tryd.zeroValue9 }
open Go.RowKit Go.Lib in
/-- internal/stringslite.HasPrefix (what strings.HasPrefix calls). (LAID: no walk: one application.) -/
theorem Tryd.stringslite_HasPrefix (s p : ByteArray) (w : World) :
    Calls Tryd.prog 109 #[.string s, .string p] w fun e w' => e = .returned (.bool (Lib.hasPrefix s.data.toList p.data.toList)) ∧ w' = w := Any.stringslite_HasPrefix Tryd.lays206 s p w
def Tryd.lays99_ren : Go.Shelf.Ren := ⟨fun | 99 => 99 | 206 => 109 | n => n, fun | 9 => 9 | 4 => 4 | 3 => 3 | n => n, fun | n => n⟩
theorem Tryd.lays99 : Go.Proofs.Lays.n99 Tryd.prog Tryd.lays99_ren := {
  mixed := by kernel_rfl
  f99 := Tryd.func99.trans (congrArg some (by kernel_rfl))
  f206 := Tryd.func109.trans (congrArg some (by kernel_rfl))
  t3 := Tryd.underlying3
  a3 := Tryd.isAgg3
  z3 := Tryd.sizeOf3
  v3 := Tryd.zeroValue3
  t4 := Tryd.underlying4
  a4 := Tryd.isAgg4
  z4 := Tryd.sizeOf4
  v4 := Tryd.zeroValue4
  t9 := Tryd.underlying9
  a9 := Tryd.isAgg9
  z9 := Tryd.sizeOf9
  v9 := Tryd.zeroValue9 }
open Go.RowKit Go.Lib in
/-- strings.HasPrefix: "HasPrefix reports whether the string s begins with prefix.": IT RETURNS 'Lib.hasPrefix s prefix'; the world is as it was. (LAID: no walk: one application.) -/
theorem Tryd.strings_HasPrefix (s p : ByteArray) (w : World) :
    Calls Tryd.prog 99 #[.string s, .string p] w fun e w' => e = .returned (.bool (Lib.hasPrefix s.data.toList p.data.toList)) ∧ w' = w := Any.strings_HasPrefix Tryd.lays99 s p w
end Go.Proofs

/- Plain facts on fractions in lowest terms; no program in sight. No conditions. -/
namespace Go.Proofs.YtkghmghjgikihaaDoor.Frac

/-- The greatest common divisor that a fraction is shortened by. -/
def gOf (s d : Int) : Nat := Nat.gcd s.natAbs d.natAbs
/-- The shortened numerator and denominator. -/
def rN (s d : Int) : Int := s / (gOf s d : Int)
def rD (s d : Int) : Int := d / (gOf s d : Int)
/-- Does the shortened fraction lie in range? -/
def nOk (s d : Int) : Bool := decide ((rN s d).natAbs ≤ 1000000000000000) && decide (rD s d ≤ 1000000000)
/-- The result of shortening s/d: numerator, denominator, error number. -/
def nN (s d : Int) : Int := if nOk s d = true then rN s d else 0
def nD (s d : Int) : Int := if nOk s d = true then rD s d else 0
def nE (s d : Int) : Int := if nOk s d = true then 0 else 2

theorem gOf_pos (s d : Int) (h : 0 < d) : 0 < gOf s d := Nat.gcd_pos_of_pos_right _ (by omega)

theorem rN_mul (s d : Int) : s = (gOf s d : Int) * rN s d := by
  have h : (gOf s d : Int) ∣ s := Int.ofNat_dvd_left.2 (Nat.gcd_dvd_left _ _)
  exact (Int.mul_ediv_cancel' h).symm
theorem rD_mul (s d : Int) : d = (gOf s d : Int) * rD s d := by
  have h : (gOf s d : Int) ∣ d := Int.ofNat_dvd_left.2 (Nat.gcd_dvd_right _ _)
  exact (Int.mul_ediv_cancel' h).symm

theorem rD_pos (s d : Int) (h : 0 < d) : 0 < rD s d := by
  have e := rD_mul s d
  have g := gOf_pos s d h
  by_cases c : 0 < rD s d
  · exact c
  · have : (gOf s d : Int) * rD s d ≤ 0 := Int.mul_nonpos_of_nonneg_of_nonpos (by omega) (by omega)
    omega

theorem r_coprime (s d : Int) (h : 0 < d) : Nat.gcd (rN s d).natAbs (rD s d).natAbs = 1 := by
  have g := gOf_pos s d h
  have e1 : s.natAbs = gOf s d * (rN s d).natAbs := by
    have := congrArg Int.natAbs (rN_mul s d)
    rwa [Int.natAbs_mul, Int.natAbs_natCast] at this
  have e2 : d.natAbs = gOf s d * (rD s d).natAbs := by
    have := congrArg Int.natAbs (rD_mul s d)
    rwa [Int.natAbs_mul, Int.natAbs_natCast] at this
  have e3 : gOf s d = gOf s d * Nat.gcd (rN s d).natAbs (rD s d).natAbs := by
    rw [← Nat.gcd_mul_left, ← e1, ← e2]; rfl
  have := Nat.eq_of_mul_eq_mul_left g (show gOf s d * Nat.gcd (rN s d).natAbs (rD s d).natAbs = gOf s d * 1 by omega)
  exact this

/-- Two shortened fractions of one value are the same. -/
theorem low_unique {a b c d : Int} (hb : 0 < b) (hd : 0 < d) (h1 : Nat.gcd a.natAbs b.natAbs = 1) (h2 : Nat.gcd c.natAbs d.natAbs = 1) (h : a * d = c * b) : a = c ∧ b = d := by
  have hn : a.natAbs * d.natAbs = c.natAbs * b.natAbs := by
    rw [← Int.natAbs_mul, ← Int.natAbs_mul, h]
  have k1 : b.natAbs ∣ d.natAbs := by
    have : b.natAbs ∣ a.natAbs * d.natAbs := by rw [hn]; exact Nat.dvd_mul_left _ _
    exact Nat.Coprime.dvd_of_dvd_mul_left (show Nat.Coprime b.natAbs a.natAbs by rw [Nat.coprime_comm]; exact h1) this
  have k2 : d.natAbs ∣ b.natAbs := by
    have : d.natAbs ∣ c.natAbs * b.natAbs := by rw [← hn]; exact Nat.dvd_mul_left _ _
    exact Nat.Coprime.dvd_of_dvd_mul_left (show Nat.Coprime d.natAbs c.natAbs by rw [Nat.coprime_comm]; exact h2) this
  have e : b.natAbs = d.natAbs := Nat.dvd_antisymm k1 k2
  have e' : b = d := by omega
  refine ⟨?_, e'⟩
  rw [e'] at h
  exact Int.eq_of_mul_eq_mul_right (by omega) h

/-- Shortening depends on the value alone. -/
theorem r_value {s d s' d' : Int} (hd : 0 < d) (hd' : 0 < d') (h : s * d' = s' * d) : rN s d = rN s' d' ∧ rD s d = rD s' d' := by
  refine low_unique (rD_pos s d hd) (rD_pos s' d' hd') (r_coprime s d hd) (r_coprime s' d' hd') ?_
  have g1 := gOf_pos s d hd
  have g2 := gOf_pos s' d' hd'
  have a1 := rN_mul s d
  have a2 := rD_mul s d
  have a3 := rN_mul s' d'
  have a4 := rD_mul s' d'
  generalize rN s d = x at *
  generalize rD s d = y at *
  generalize rN s' d' = z at *
  generalize rD s' d' = t at *
  have e : (x * t) * ((gOf s d : Int) * (gOf s' d' : Int)) = (z * y) * ((gOf s d : Int) * (gOf s' d' : Int)) := by
    generalize (gOf s d : Int) = p at *
    generalize (gOf s' d' : Int) = q at *
    subst a1 a2 a3 a4
    grind
  refine Int.eq_of_mul_eq_mul_right ?_ e
  have : (0 : Int) < (gOf s d : Int) * (gOf s' d' : Int) := Int.mul_pos (by omega) (by omega)
  omega

theorem n_value {s d s' d' : Int} (hd : 0 < d) (hd' : 0 < d') (h : s * d' = s' * d) : nN s d = nN s' d' ∧ nD s d = nD s' d' ∧ nE s d = nE s' d' := by
  obtain ⟨e1, e2⟩ := r_value hd hd' h
  unfold nN nD nE nOk
  rw [e1, e2]; exact ⟨rfl, rfl, rfl⟩

/-- Is n/d a valid fraction? -/
def validB (n d : Int) : Bool := decide (1 ≤ d ∧ d ≤ 1000000000 ∧ -1000000000000000 ≤ n ∧ n ≤ 1000000000000000) && decide (Nat.gcd n.natAbs d.natAbs = 1)
theorem validB_iff (n d : Int) : validB n d = true ↔ ((1 ≤ d ∧ d ≤ 1000000000 ∧ -1000000000000000 ≤ n ∧ n ≤ 1000000000000000) ∧ Nat.gcd n.natAbs d.natAbs = 1) := by
  unfold validB; simp

theorem n_valid {n d : Int} (h : validB n d = true) : nN n d = n ∧ nD n d = d ∧ nE n d = 0 := by
  obtain ⟨⟨h0, h1, h2, h3⟩, h4⟩ := (validB_iff n d).1 h
  have g : gOf n d = 1 := h4
  have e1 : rN n d = n := by unfold rN; rw [g]; simp
  have e2 : rD n d = d := by unfold rD; rw [g]; simp
  have : nOk n d = true := by unfold nOk; rw [e1, e2]; simp; omega
  unfold nN nD nE
  rw [if_pos this, if_pos this, if_pos this, e1, e2]; exact ⟨rfl, rfl, rfl⟩

theorem n_cases (s d : Int) (hd : 0 < d) : (nE s d = 2 ∧ nN s d = 0 ∧ nD s d = 0 ∧ nOk s d = false) ∨ (nE s d = 0 ∧ nOk s d = true ∧ validB (nN s d) (nD s d) = true ∧ nN s d * d = s * nD s d) := by
  unfold nN nD nE
  cases h : nOk s d
  · exact .inl ⟨by simp, by simp, by simp, rfl⟩
  · right
    have hp := rD_pos s d hd
    have hc := r_coprime s d hd
    have a1 := rN_mul s d
    have a2 := rD_mul s d
    simp only [nOk, Bool.and_eq_true, decide_eq_true_eq] at h
    refine ⟨by simp, rfl, ?_, ?_⟩
    · simp only [if_true]
      exact (validB_iff _ _).2 ⟨by omega, hc⟩
    · simp only [if_true]
      generalize rN s d = x at *
      generalize rD s d = y at *
      generalize (gOf s d : Int) = p at *
      subst a1 a2
      grind

theorem n_sign (s d : Int) (hd : 0 < d) (h : nE s d = 0) : (nN s d < 0 ↔ s < 0) ∧ (nN s d = 0 ↔ s = 0) := by
  rcases n_cases s d hd with ⟨e, _⟩ | ⟨_, _, hv, he⟩
  · omega
  · have hp : 0 < nD s d := by have := (validB_iff _ _).1 hv; omega
    generalize nN s d = x at *
    generalize nD s d = y at *
    constructor
    · constructor
      · intro hx
        have : x * d < 0 := Int.mul_neg_of_neg_of_pos hx hd
        rw [he] at this
        by_cases c : s < 0
        · exact c
        · have : 0 ≤ s * y := Int.mul_nonneg (by omega) (by omega); omega
      · intro hs
        have : s * y < 0 := Int.mul_neg_of_neg_of_pos hs hp
        rw [← he] at this
        by_cases c : x < 0
        · exact c
        · have : 0 ≤ x * d := Int.mul_nonneg (by omega) (by omega); omega
    · constructor
      · intro hx
        rw [hx, Int.zero_mul] at he
        exact (Int.mul_eq_zero.1 he.symm).resolve_right (by omega)
      · intro hs
        rw [hs, Int.zero_mul] at he
        exact (Int.mul_eq_zero.1 he).resolve_right (by omega)

/-! The operations: numerator, denominator, error number of each. -/
def negN (n d : Int) : Int := if validB n d = true then -n else 0
def negD (n d : Int) : Int := if validB n d = true then d else 0
def negE (n d : Int) : Int := if validB n d = true then 0 else 1

def addB (a b c d : Int) : Bool := validB a b && validB c d
def addN (a b c d : Int) : Int := if addB a b c d = true then nN (a * d + c * b) (b * d) else 0
def addD (a b c d : Int) : Int := if addB a b c d = true then nD (a * d + c * b) (b * d) else 0
def addE (a b c d : Int) : Int := if addB a b c d = true then nE (a * d + c * b) (b * d) else 1

def mulN (a b c d : Int) : Int := if addB a b c d = true then nN (a * c) (b * d) else 0
def mulD (a b c d : Int) : Int := if addB a b c d = true then nD (a * c) (b * d) else 0
def mulE (a b c d : Int) : Int := if addB a b c d = true then nE (a * c) (b * d) else 1

/-- The numerator and denominator of a quotient, the denominator positive. -/
def dvS (a c d : Int) : Int := if c < 0 then -(a * d) else a * d
def dvD (b c : Int) : Int := b * (c.natAbs : Int)
def divN (a b c d : Int) : Int := if addB a b c d = true then (if c = 0 then 0 else nN (dvS a c d) (dvD b c)) else 0
def divD (a b c d : Int) : Int := if addB a b c d = true then (if c = 0 then 0 else nD (dvS a c d) (dvD b c)) else 0
def divE (a b c d : Int) : Int := if addB a b c d = true then (if c = 0 then 3 else nE (dvS a c d) (dvD b c)) else 1

def subN (a b c d : Int) : Int := if validB c d = true then addN a b (-c) d else 0
def subD (a b c d : Int) : Int := if validB c d = true then addD a b (-c) d else 0
def subE (a b c d : Int) : Int := if validB c d = true then addE a b (-c) d else 1

def cmpV (a b c d : Int) : Int := if addB a b c d = true then (if a * d < c * b then -1 else if a * d = c * b then 0 else 1) else 0
def cmpE (a b c d : Int) : Int := if addB a b c d = true then 0 else 1

def mkS (n d : Int) : Int := if d < 0 then -n else n
def mkN (n d : Int) : Int := if d = 0 then 0 else nN (mkS n d) (d.natAbs : Int)
def mkD (n d : Int) : Int := if d = 0 then 0 else nD (mkS n d) (d.natAbs : Int)
def mkE (n d : Int) : Int := if d = 0 then 3 else nE (mkS n d) (d.natAbs : Int)

def flN (n d : Int) : Int := if validB n d = true then n / d else 0
def clN (n d : Int) : Int := if validB n d = true then -((-n) / d) else 0
def flE (n d : Int) : Int := if validB n d = true then 0 else 1

theorem addB_iff (a b c d : Int) : addB a b c d = true ↔ (validB a b = true ∧ validB c d = true) := by unfold addB; simp
theorem valid_pos {n d : Int} (h : validB n d = true) : 0 < d := by have := (validB_iff n d).1 h; omega
theorem valid_neg {n d : Int} (h : validB n d = true) : validB (-n) d = true := by
  have := (validB_iff n d).1 h
  exact (validB_iff _ _).2 ⟨by omega, by rw [Int.natAbs_neg]; exact this.2⟩

/-- What OK says of each operation. -/
theorem add_ok {a b c d : Int} (h : addE a b c d = 0) : validB a b = true ∧ validB c d = true ∧ validB (addN a b c d) (addD a b c d) = true ∧ addN a b c d * (b * d) = (a * d + c * b) * addD a b c d := by
  unfold addN addD
  unfold addE at h
  cases hB : addB a b c d
  · rw [hB] at h; simp at h
  · rw [hB] at h; simp only [if_true] at h ⊢
    obtain ⟨v1, v2⟩ := (addB_iff a b c d).1 hB
    have hp := Int.mul_pos (valid_pos v1) (valid_pos v2)
    rcases n_cases (a * d + c * b) (b * d) hp with ⟨e, _⟩ | ⟨_, _, hv, he⟩
    · omega
    · exact ⟨v1, v2, hv, he⟩
theorem mul_ok {a b c d : Int} (h : mulE a b c d = 0) : validB a b = true ∧ validB c d = true ∧ validB (mulN a b c d) (mulD a b c d) = true ∧ mulN a b c d * (b * d) = (a * c) * mulD a b c d := by
  unfold mulN mulD
  unfold mulE at h
  cases hB : addB a b c d
  · rw [hB] at h; simp at h
  · rw [hB] at h; simp only [if_true] at h ⊢
    obtain ⟨v1, v2⟩ := (addB_iff a b c d).1 hB
    have hp := Int.mul_pos (valid_pos v1) (valid_pos v2)
    rcases n_cases (a * c) (b * d) hp with ⟨e, _⟩ | ⟨_, _, hv, he⟩
    · omega
    · exact ⟨v1, v2, hv, he⟩

theorem addB_comm (a b c d : Int) : addB a b c d = addB c d a b := by unfold addB; rw [Bool.and_comm]
theorem add_comm (a b c d : Int) : addN a b c d = addN c d a b ∧ addD a b c d = addD c d a b ∧ addE a b c d = addE c d a b := by
  unfold addN addD addE
  rw [addB_comm, show a * d + c * b = c * b + a * d by omega, Int.mul_comm b d]; exact ⟨rfl, rfl, rfl⟩
theorem mul_comm (a b c d : Int) : mulN a b c d = mulN c d a b ∧ mulD a b c d = mulD c d a b ∧ mulE a b c d = mulE c d a b := by
  unfold mulN mulD mulE
  rw [addB_comm, Int.mul_comm a c, Int.mul_comm b d]; exact ⟨rfl, rfl, rfl⟩

theorem add_of {a b c d : Int} (v1 : validB a b = true) (v2 : validB c d = true) : addN a b c d = nN (a * d + c * b) (b * d) ∧ addD a b c d = nD (a * d + c * b) (b * d) ∧ addE a b c d = nE (a * d + c * b) (b * d) := by
  have hB := (addB_iff a b c d).2 ⟨v1, v2⟩
  unfold addN addD addE
  simp [hB]
theorem mul_of {a b c d : Int} (v1 : validB a b = true) (v2 : validB c d = true) : mulN a b c d = nN (a * c) (b * d) ∧ mulD a b c d = nD (a * c) (b * d) ∧ mulE a b c d = nE (a * c) (b * d) := by
  have hB := (addB_iff a b c d).2 ⟨v1, v2⟩
  unfold mulN mulD mulE
  simp [hB]

theorem cancel {x y k : Int} (hk : 0 < k) (h : x * k = y * k) : x = y := Int.eq_of_mul_eq_mul_right (by omega) h

theorem add_group {a b c d e f : Int} (h1 : addE a b c d = 0) (h2 : addE c d e f = 0) :
    addN (addN a b c d) (addD a b c d) e f = addN a b (addN c d e f) (addD c d e f) ∧ addD (addN a b c d) (addD a b c d) e f = addD a b (addN c d e f) (addD c d e f) ∧ addE (addN a b c d) (addD a b c d) e f = addE a b (addN c d e f) (addD c d e f) := by
  obtain ⟨v1, v2, v3, e1⟩ := add_ok h1
  obtain ⟨_, w2, w3, e2⟩ := add_ok h2
  obtain ⟨p1, p2, p3⟩ := add_of v3 w2
  obtain ⟨q1, q2, q3⟩ := add_of v1 w3
  rw [p1, p2, p3, q1, q2, q3]
  have b1 := valid_pos v1
  have b2 := valid_pos v2
  have b3 := valid_pos v3
  have b4 := valid_pos w2
  have b5 := valid_pos w3
  clear p1 p2 p3 q1 q2 q3 h1 h2 v1 v2 v3 w2 w3
  generalize addN a b c d = A at *
  generalize addD a b c d = B at *
  generalize addN c d e f = C at *
  generalize addD c d e f = D at *
  refine n_value (Int.mul_pos b3 b4) (Int.mul_pos b1 b5) (cancel b2 ?_)
  have x1 : (A * f + e * B) * (b * D) * d = f * D * (A * (b * d)) + e * B * b * D * d := by grind
  have x2 : (a * D + C * b) * (B * f) * d = a * D * B * f * d + b * B * (C * (d * f)) := by grind
  rw [x1, x2, e1, e2]; grind

theorem mul_group {a b c d e f : Int} (h1 : mulE a b c d = 0) (h2 : mulE c d e f = 0) :
    mulN (mulN a b c d) (mulD a b c d) e f = mulN a b (mulN c d e f) (mulD c d e f) ∧ mulD (mulN a b c d) (mulD a b c d) e f = mulD a b (mulN c d e f) (mulD c d e f) ∧ mulE (mulN a b c d) (mulD a b c d) e f = mulE a b (mulN c d e f) (mulD c d e f) := by
  obtain ⟨v1, v2, v3, e1⟩ := mul_ok h1
  obtain ⟨_, w2, w3, e2⟩ := mul_ok h2
  obtain ⟨p1, p2, p3⟩ := mul_of v3 w2
  obtain ⟨q1, q2, q3⟩ := mul_of v1 w3
  rw [p1, p2, p3, q1, q2, q3]
  have b1 := valid_pos v1
  have b2 := valid_pos v2
  have b3 := valid_pos v3
  have b4 := valid_pos w2
  have b5 := valid_pos w3
  clear p1 p2 p3 q1 q2 q3 h1 h2 v1 v2 v3 w2 w3
  generalize mulN a b c d = A at *
  generalize mulD a b c d = B at *
  generalize mulN c d e f = C at *
  generalize mulD c d e f = D at *
  refine n_value (Int.mul_pos b3 b4) (Int.mul_pos b1 b5) (cancel b2 ?_)
  have x1 : (A * e) * (b * D) * d = e * D * (A * (b * d)) := by grind
  have x2 : (a * C) * (B * f) * d = a * B * (C * (d * f)) := by grind
  rw [x1, x2, e1, e2]; grind

/-- a * (b + c) and a * b + a * c. -/
theorem spread {a b c d e f : Int} (h1 : addE c d e f = 0) (h2 : mulE a b c d = 0) (h3 : mulE a b e f = 0) :
    mulN a b (addN c d e f) (addD c d e f) = addN (mulN a b c d) (mulD a b c d) (mulN a b e f) (mulD a b e f) ∧ mulD a b (addN c d e f) (addD c d e f) = addD (mulN a b c d) (mulD a b c d) (mulN a b e f) (mulD a b e f) ∧ mulE a b (addN c d e f) (addD c d e f) = addE (mulN a b c d) (mulD a b c d) (mulN a b e f) (mulD a b e f) := by
  obtain ⟨v2, v3, v4, e1⟩ := add_ok h1
  obtain ⟨v1, _, v5, e2⟩ := mul_ok h2
  obtain ⟨_, _, v6, e3⟩ := mul_ok h3
  obtain ⟨p1, p2, p3⟩ := mul_of v1 v4
  obtain ⟨q1, q2, q3⟩ := add_of v5 v6
  rw [p1, p2, p3, q1, q2, q3]
  have b1 := valid_pos v1
  have b2 := valid_pos v2
  have b3 := valid_pos v3
  have b4 := valid_pos v4
  have b5 := valid_pos v5
  have b6 := valid_pos v6
  clear p1 p2 p3 q1 q2 q3 h1 h2 h3 v1 v2 v3 v4 v5 v6
  generalize addN c d e f = S at *
  generalize addD c d e f = T at *
  generalize mulN a b c d = X at *
  generalize mulD a b c d = Y at *
  generalize mulN a b e f = Z at *
  generalize mulD a b e f = W at *
  refine n_value (Int.mul_pos b1 b4) (Int.mul_pos b5 b6) (cancel (Int.mul_pos b2 b3) ?_)
  have x1 : a * S * (Y * W) * (d * f) = a * Y * W * (S * (d * f)) := by grind
  have x2 : (X * W + Z * Y) * (b * T) * (d * f) = W * T * f * (X * (b * d)) + Y * T * d * (Z * (b * f)) := by grind
  rw [x1, x2, e1, e2, e3]; grind

/-- (a + b) - b. -/
theorem add_undo {a b c d : Int} (h : addE a b c d = 0) :
    subE (addN a b c d) (addD a b c d) c d = 0 ∧ subN (addN a b c d) (addD a b c d) c d = a ∧ subD (addN a b c d) (addD a b c d) c d = b := by
  obtain ⟨v1, v2, v3, e1⟩ := add_ok h
  obtain ⟨p1, p2, p3⟩ := add_of v3 (valid_neg v2)
  obtain ⟨q1, q2, q3⟩ := n_valid v1
  unfold subE subN subD
  rw [if_pos v2, if_pos v2, if_pos v2, p1, p2, p3]
  have b1 := valid_pos v1
  have b2 := valid_pos v2
  have b3 := valid_pos v3
  clear p1 p2 p3 h v1 v2 v3
  generalize addN a b c d = A at *
  generalize addD a b c d = B at *
  have := n_value (s := A * d + -c * B) (d := B * d) (s' := a) (d' := b) (Int.mul_pos b3 b2) b1 (by
    have x1 : (A * d + -c * B) * b = A * (b * d) - c * B * b := by grind
    rw [x1, e1]; grind)
  rw [this.1, this.2.1, this.2.2]
  exact ⟨q3, q1, q2⟩

theorem div_of {a b c d : Int} (v1 : validB a b = true) (v2 : validB c d = true) (h : c ≠ 0) : divN a b c d = nN (dvS a c d) (dvD b c) ∧ divD a b c d = nD (dvS a c d) (dvD b c) ∧ divE a b c d = nE (dvS a c d) (dvD b c) := by
  have hB := (addB_iff a b c d).2 ⟨v1, v2⟩
  unfold divN divD divE
  simp [hB, h]
theorem dvD_pos {b c : Int} (hb : 0 < b) (h : c ≠ 0) : 0 < dvD b c := by
  unfold dvD; exact Int.mul_pos hb (by omega)

/-- (a * b) / b. -/
theorem mul_undo {a b c d : Int} (h : mulE a b c d = 0) (hc : c ≠ 0) :
    divE (mulN a b c d) (mulD a b c d) c d = 0 ∧ divN (mulN a b c d) (mulD a b c d) c d = a ∧ divD (mulN a b c d) (mulD a b c d) c d = b := by
  obtain ⟨v1, v2, v3, e1⟩ := mul_ok h
  obtain ⟨p1, p2, p3⟩ := div_of v3 v2 hc
  obtain ⟨q1, q2, q3⟩ := n_valid v1
  rw [p1, p2, p3]
  have b1 := valid_pos v1
  have b2 := valid_pos v2
  have b3 := valid_pos v3
  clear p1 p2 p3 h v1 v2 v3
  generalize mulN a b c d = A at *
  generalize mulD a b c d = B at *
  have := n_value (s := dvS A c d) (d := dvD B c) (s' := a) (d' := b) (dvD_pos b3 hc) b1 (by
    unfold dvS dvD
    by_cases cn : c < 0
    · rw [if_pos cn, show (c.natAbs : Int) = -c by omega]
      have x1 : -(A * d) * b = -(A * (b * d)) := by grind
      rw [x1, e1]; grind
    · rw [if_neg cn, show (c.natAbs : Int) = c by omega]
      have x1 : A * d * b = A * (b * d) := by grind
      rw [x1, e1]; grind)
  rw [this.1, this.2.1, this.2.2]
  exact ⟨q3, q1, q2⟩

theorem cmp_of {a b c d : Int} (v1 : validB a b = true) (v2 : validB c d = true) : cmpV a b c d = (if a * d < c * b then -1 else if a * d = c * b then 0 else 1) ∧ cmpE a b c d = 0 := by
  have hB := (addB_iff a b c d).2 ⟨v1, v2⟩
  unfold cmpV cmpE; simp [hB]
theorem cmp_no {a b c d : Int} (h : addB a b c d = false) : cmpV a b c d = 0 ∧ cmpE a b c d = 1 := by
  unfold cmpV cmpE; simp [h]
theorem cmp_bd (a b c d : Int) : -1 ≤ cmpV a b c d ∧ cmpV a b c d ≤ 1 := by
  unfold cmpV; repeat' split
  all_goals omega
theorem cmp_swap (a b c d : Int) : cmpV c d a b = -cmpV a b c d ∧ cmpE c d a b = cmpE a b c d := by
  unfold cmpV cmpE
  rw [addB_comm c d a b]
  refine ⟨?_, rfl⟩
  repeat' split
  all_goals omega
theorem cmp_zero {a b c d : Int} (v1 : validB a b = true) (v2 : validB c d = true) : cmpV a b c d = 0 ↔ (a = c ∧ b = d) := by
  rw [(cmp_of v1 v2).1]
  constructor
  · intro h
    have e : a * d = c * b := by
      by_cases c1 : a * d < c * b
      · rw [if_pos c1] at h; omega
      · by_cases c2 : a * d = c * b
        · exact c2
        · rw [if_neg c1, if_neg c2] at h; omega
    exact low_unique (valid_pos v1) (valid_pos v2) ((validB_iff _ _).1 v1).2 ((validB_iff _ _).1 v2).2 e
  · rintro ⟨rfl, rfl⟩
    rw [if_neg (by omega), if_pos rfl]
theorem cmp_le {a b c d : Int} (v1 : validB a b = true) (v2 : validB c d = true) : (cmpV a b c d ≤ 0 ↔ a * d ≤ c * b) ∧ (cmpV a b c d < 0 ↔ a * d < c * b) := by
  rw [(cmp_of v1 v2).1]
  by_cases c1 : a * d < c * b
  · rw [if_pos c1]; omega
  · by_cases c2 : a * d = c * b
    · rw [if_neg c1, if_pos c2]; omega
    · rw [if_neg c1, if_neg c2]; omega

theorem cross_le {a b c d e f : Int} (hb : 0 < b) (hd : 0 < d) (hf : 0 < f) (h1 : a * d ≤ c * b) (h2 : c * f ≤ e * d) : a * f ≤ e * b := by
  have x1 : a * d * f ≤ c * b * f := Int.mul_le_mul_of_nonneg_right h1 (by omega)
  have x2 : c * f * b ≤ e * d * b := Int.mul_le_mul_of_nonneg_right h2 (by omega)
  have x3 : a * f * d ≤ e * b * d := by
    have y1 : a * f * d = a * d * f := by grind
    have y2 : e * b * d = e * d * b := by grind
    have y3 : c * b * f = c * f * b := by grind
    omega
  exact Int.le_of_mul_le_mul_right x3 hd
theorem cross_lt {a b c d e f : Int} (hb : 0 < b) (hd : 0 < d) (hf : 0 < f) (h1 : a * d ≤ c * b) (h2 : c * f ≤ e * d) (h : a * d < c * b ∨ c * f < e * d) : a * f < e * b := by
  have y1 : a * f * d = a * d * f := by grind
  have y2 : e * b * d = e * d * b := by grind
  have y3 : c * b * f = c * f * b := by grind
  have x1 : a * d * f ≤ c * b * f := Int.mul_le_mul_of_nonneg_right h1 (by omega)
  have x2 : c * f * b ≤ e * d * b := Int.mul_le_mul_of_nonneg_right h2 (by omega)
  have x3 : a * f * d < e * b * d := by
    rcases h with h | h
    · have : a * d * f < c * b * f := Int.mul_lt_mul_of_pos_right h hf
      omega
    · have : c * f * b < e * d * b := Int.mul_lt_mul_of_pos_right h hb
      omega
  exact Int.lt_of_mul_lt_mul_right x3 (by omega)

/-- The order is transitive. -/
theorem cmp_trans {a b c d e f : Int} (v1 : validB a b = true) (v2 : validB c d = true) (v3 : validB e f = true) (h1 : cmpV a b c d ≤ 0) (h2 : cmpV c d e f ≤ 0) :
    cmpV a b e f ≤ 0 ∧ ((cmpV a b c d < 0 ∨ cmpV c d e f < 0) → cmpV a b e f < 0) := by
  have l1 := cmp_le v1 v2
  have l2 := cmp_le v2 v3
  have l3 := cmp_le v1 v3
  have p1 := valid_pos v1
  have p2 := valid_pos v2
  have p3 := valid_pos v3
  refine ⟨l3.1.2 (cross_le p1 p2 p3 (l1.1.1 h1) (l2.1.1 h2)), fun h => l3.2.2 (cross_lt p1 p2 p3 (l1.1.1 h1) (l2.1.1 h2) ?_)⟩
  rcases h with h | h
  · exact .inl (l1.2.1 h)
  · exact .inr (l2.2.1 h)

/-- Differences agree with the order. -/
theorem sub_sign {a b c d : Int} (v1 : validB a b = true) (v2 : validB c d = true) (h : subE a b c d = 0) :
    (subN a b c d < 0 ↔ cmpV a b c d < 0) ∧ (subN a b c d = 0 ↔ cmpV a b c d = 0) := by
  unfold subE at h
  unfold subN
  rw [if_pos v2] at h ⊢
  obtain ⟨p1, _, p3⟩ := add_of v1 (valid_neg v2)
  rw [p3] at h
  rw [p1]
  have hs := n_sign _ _ (Int.mul_pos (valid_pos v1) (valid_pos v2)) h
  have e : a * d + -c * b = a * d - c * b := by grind
  rw [e] at hs ⊢
  rw [(cmp_of v1 v2).1]
  by_cases c1 : a * d < c * b
  · rw [if_pos c1]; omega
  · by_cases c2 : a * d = c * b
    · rw [if_neg c1, if_pos c2]; omega
    · rw [if_neg c1, if_neg c2]; omega

/-- Between floor and ceiling. -/
theorem floor_facts {n d : Int} (v : validB n d = true) :
    flN n d * d ≤ n ∧ n ≤ clN n d * d ∧ -1000000000000000 ≤ flN n d ∧ flN n d ≤ 1000000000000000 ∧ -1000000000000000 ≤ clN n d ∧ clN n d ≤ 1000000000000000 ∧ ((clN n d - flN n d = 1 ∧ 1 < d) ∨ (clN n d = flN n d ∧ d = 1)) := by
  obtain ⟨⟨h0, h1, h2, h3⟩, h4⟩ := (validB_iff n d).1 v
  unfold flN clN
  rw [if_pos v, if_pos v]
  have a1 := Int.emod_nonneg n (show d ≠ 0 by omega)
  have a2 := Int.emod_lt_of_pos n (show 0 < d by omega)
  have a3 := Int.mul_ediv_add_emod n d
  have b1 := Int.emod_nonneg (-n) (show d ≠ 0 by omega)
  have b2 := Int.emod_lt_of_pos (-n) (show 0 < d by omega)
  have b3 := Int.mul_ediv_add_emod (-n) d
  have c1 : -1000000000000000 ≤ n / d ∧ n / d ≤ 1000000000000000 := by
    constructor
    · rw [Int.le_ediv_iff_mul_le (by omega)]
      have : -1000000000000000 * d ≤ -1000000000000000 * 1 := Int.mul_le_mul_of_nonpos_left (by omega) (by omega)
      omega
    · have : n / d < 1000000000000001 := by
        rw [Int.ediv_lt_iff_lt_mul (by omega)]
        have : (1000000000000001 : Int) * 1 ≤ 1000000000000001 * d := Int.mul_le_mul_of_nonneg_left (by omega) (by omega)
        omega
      omega
  have c2 : -1000000000000000 ≤ (-n) / d ∧ (-n) / d ≤ 1000000000000000 := by
    constructor
    · rw [Int.le_ediv_iff_mul_le (by omega)]
      have : -1000000000000000 * d ≤ -1000000000000000 * 1 := Int.mul_le_mul_of_nonpos_left (by omega) (by omega)
      omega
    · have : (-n) / d < 1000000000000001 := by
        rw [Int.ediv_lt_iff_lt_mul (by omega)]
        have : (1000000000000001 : Int) * 1 ≤ 1000000000000001 * d := Int.mul_le_mul_of_nonneg_left (by omega) (by omega)
        omega
      omega
  rw [Int.mul_comm (n / d) d, Int.neg_mul, Int.mul_comm ((-n) / d) d]
  refine ⟨by omega, by omega, by omega, by omega, by omega, by omega, ?_⟩
  by_cases hd : d = 1
  · subst hd
    right; simp
  · left
    refine ⟨?_, by omega⟩
    have hne : n % d ≠ 0 := by
      intro e
      have hdv : d ∣ n := Int.dvd_of_emod_eq_zero e
      have : d.natAbs ∣ Nat.gcd n.natAbs d.natAbs := Nat.dvd_gcd (Int.natAbs_dvd_natAbs.2 hdv) (Nat.dvd_refl _)
      rw [h4] at this
      have := Nat.le_of_dvd (by omega) this
      omega
    generalize n / d = q at *
    generalize n % d = r at *
    generalize (-n) / d = q' at *
    generalize (-n) % d = r' at *
    have e1 : d * (q + q') = -(r + r') := by rw [Int.mul_add]; omega
    have e2 : q + q' = -1 := by
      have k1 : d * (q + q') < d * 0 := by omega
      have k2 : d * (-2) < d * (q + q') := by omega
      have m1 := Int.lt_of_mul_lt_mul_left k1 (by omega)
      have m2 := Int.lt_of_mul_lt_mul_left k2 (by omega)
      omega
    omega

theorem mk_one {x : Int} (h0 : -1000000000000000 ≤ x) (h1 : x ≤ 1000000000000000) : mkN x 1 = x ∧ mkD x 1 = 1 ∧ mkE x 1 = 0 ∧ validB x 1 = true := by
  have v : validB x 1 = true := (validB_iff x 1).2 ⟨by omega, by simp⟩
  have := n_valid v
  unfold mkN mkD mkE mkS
  simp
  exact ⟨this.1, this.2.1, this.2.2, v⟩
theorem mk_valid {n d : Int} (h : mkE n d = 0) : validB (mkN n d) (mkD n d) = true := by
  unfold mkE at h
  unfold mkN mkD
  by_cases hd : d = 0
  · rw [if_pos hd] at h; omega
  · rw [if_neg hd] at h ⊢
    rw [if_neg hd]
    rcases n_cases (mkS n d) (d.natAbs : Int) (by omega) with ⟨e, _⟩ | ⟨_, _, hv, _⟩
    · omega
    · exact hv

end Go.Proofs.YtkghmghjgikihaaDoor.Frac

/- A region that draws its order: the operations that yield one value in every world that meets S, and leave what was there as it was, are taken first, in the order of the text; the others are met in whatever order, with any growth of the world between them. Over any program. Its conditions are those of wp_region_calm. -/
namespace Go.Proofs.YtkghmghjgikihaaDoor
open Go.RowKit

/-- The second world is the first with blocks laid behind it and draws. -/
def Rel (w w' : World) : Prop := Below w.heap.size w w'
theorem Rel.refl (w : World) : Rel w w := Below.refl _ _
theorem Rel.trans {a b c : World} (h : Rel a b) (k : Rel b c) : Rel a c := Below.trans h (Below.mono k h.size)
theorem Rel.draw (w : World) : Rel w { w with drawn := w.drawn + 1 } := ⟨rfl, rfl, rfl, Nat.le_refl _, fun _ _ => rfl⟩
theorem Rel.cell {w w' : World} (h : Rel w w') {a : Addr} {v : Value} (hc : w.cell? a = some v) : w'.cell? a = some v := by
  rw [Below.cell h (World.block_lt_of_cell? w a hc)]; exact hc
theorem Rel.frozen {w w' : World} (h : Rel w w') {a : Addr} (ha : a.block < w.heap.size) (hc : w.frozen? a = false) : w'.frozen? a = false := by
  rw [Below.frozen h ha]; exact hc

theorem Rel.alloc {a b : World} (h : Rel a b) (o : Obj) : Rel a (b.alloc o) := Below.alloc h h.size o
theorem Rel.drew {a b : World} (h : Rel a b) : Rel a b.drew := Below.drew h
theorem Rel.setCell {a b : World} (h : Rel a b) {p : Addr} (hp : a.heap.size ≤ p.block) (u : Value) : Rel a (b.setCell p u) := Below.setCell h hp u
theorem Rel.lt {a b : World} (h : Rel a b) {n : Nat} (hn : n < a.heap.size) : n < b.heap.size := Nat.lt_of_lt_of_le hn h.size

section
variable {P : Program} {ops : Array Oper} {Q : Exit → Act → World → Prop} {md : Region.Mode} {S : Array Bool → World → Prop} {T : Nat → Bool}

/-- Does operation j wait for operation i, at first or at further hand? -/
def dep (md : Region.Mode) (ops : Array Oper) : Nat → Nat → Nat → Bool
  | 0, _, _ => false
  | f + 1, j, i =>
    match ops[j]? with
    | some oj => oj.after.any fun e => Region.binds md e && (e.on == i || dep md ops f e.on i)
    | none => false

/-- What has come up has all that it waits for behind it. -/
def Closed (md : Region.Mode) (ops : Array Oper) (L : Array Bool) : Prop :=
  ∀ (j : Nat) (oj : Oper), ops[j]? = some oj → L.getD j false = true → ∀ e ∈ oj.after, Region.binds md e = true → L.getD e.on false = true

theorem Closed.dep {L : Array Bool} (h : Closed md ops L) : ∀ (f j i : Nat), L.getD j false = true → dep md ops f j i = true → L.getD i false = true := by
  intro f
  induction f with
  | zero => intro j i _ hd; cases hd
  | succ f ih =>
    intro j i hj hd
    unfold Go.Proofs.YtkghmghjgikihaaDoor.dep at hd
    split at hd
    · rename_i oj ho
      obtain ⟨e, he, hb⟩ := Array.any_eq_true'.1 hd
      simp only [Bool.and_eq_true, Bool.or_eq_true, beq_iff_eq] at hb
      have h1 := h j oj ho hj e he hb.1
      rcases hb.2 with h2 | h2
      · rw [← h2]; exact h1
      · exact ih e.on i h1 h2
    · cases hd

theorem getD_set_self {L : Array Bool} {i : Nat} (h : L.getD i true = false) : (L.setIfInBounds i true).getD i false = true := by
  rcases Nat.lt_or_ge i L.size with h' | h'
  · simp [h']
  · simp [Array.getElem?_eq_none h'] at h

theorem Closed.set {L : Array Bool} (h : Closed md ops L) {i : Nat} (hi : i ∈ Region.ready md ops L) : Closed md ops (L.setIfInBounds i true) := by
  obtain ⟨hun, oi, hoi, hall⟩ := mem_ready.1 hi
  intro j oj hj hl e he hb
  by_cases hij : i = j
  · subst hij
    have : oj = oi := Option.some.inj (hj.symm.trans hoi)
    subst this
    exact getD_set_true (hall e he hb)
  · rw [getD_set_ne false hij] at hl
    exact getD_set_true (h j oj hj hl e he hb)

/-- What is asked of one operation that is taken first: the value v, in a world that has only grown. -/
def calmUpon (P : Program) (w : World) (v : Value) : Result Next → Prop
  | .ok (.value u) w' => u = v ∧ Rel w w'
  | .ok .skip w' => v = undef ∧ Rel w w'
  | .ok (.enter f args) w' => w' = w ∧ Calls P f args w (fun e w'' => e = .returned v ∧ Rel w w'')
  | _ => False
def calmAt (P : Program) (o : Oper) (a : Act) (w : World) (v : Value) : Prop := calmUpon P w v ((execOp a.eval o).run P w)

/-- None of the marked operations waits for operation i. -/
def Ahead (md : Region.Mode) (ops : Array Oper) (i : Nat) (M : Array Bool) : Prop := ∀ k, dep md ops ops.size k i = true → M.getD k false = false

/-- In state a operation o (number i) yields v in every world that meets S ahead of it. -/
def YieldsC (P : Program) (md : Region.Mode) (ops : Array Oper) (S : Array Bool → World → Prop) (i : Nat) (o : Oper) (v : Value) (a : Act) : Prop :=
  (Region.wanted o (yielded ops a.tmps) = true ∧ ∀ M w, Ahead md ops i M → S M w → calmAt P o a w v) ∨
  (Region.wanted o (yielded ops a.tmps) = false ∧ v = undef)

theorem YieldsC.wpOp {i : Nat} {o : Oper} {v : Value} {a : Act} (hi : ops[i]? = some o) (hy : YieldsC P md ops S i o v a)
    {K : Act → World → Prop} {w : World} {M : Array Bool} (hM : Ahead md ops i M) (hS : S M w) (h : ∀ w', Rel w w' → K (a.put o.dst v) w') : wpOp P ops Q i K a w := by
  unfold Go.wpOp
  simp only [hi]
  rcases hy with ⟨hw, hv⟩ | ⟨hw, rfl⟩
  · simp only [hw, if_true]
    refine .inl ?_
    have h3 := hv M w hM hS
    unfold calmAt at h3
    unfold Oper.wp
    generalize (execOp a.eval o).run P w = r at *
    cases r with
    | ok n w' =>
      cases n <;> simp only [calmUpon] at h3 <;> simp only [Oper.upon]
      case value u => obtain ⟨e1, e2⟩ := h3; rw [e1]; exact h _ e2
      case skip => obtain ⟨e1, e2⟩ := h3; rw [← e1]; exact h _ e2
      case enter f args =>
        obtain ⟨e1, hc⟩ := h3
        rw [e1]
        exact hc.mono fun e w'' ⟨he, hw''⟩ => by subst he; exact h _ hw''
    | halt x w' => simp only [calmUpon] at h3
  · simp only [hw, Bool.false_eq_true, if_false]; exact h _ (Rel.refl _)

theorem YieldsC.of_same {i : Nat} {o : Oper} {v : Value} {a a' : Act} (hy : YieldsC P md ops S i o v a) (he : execOp a'.eval o = execOp a.eval o)
    (hw : Region.wanted o (yielded ops a'.tmps) = Region.wanted o (yielded ops a.tmps)) : YieldsC P md ops S i o v a' := by
  unfold YieldsC calmAt at *
  rw [he, hw]
  exact hy

theorem wpOp_putC {i j : Nat} {oi oj : Oper} {v : Value} (hj : ops[j]? = some oj) (hap : oi.apart ops oj = true)
    (hsi : ∀ cs b, oi.op ≠ .select cs b) (hsj : ∀ cs b, oj.op ≠ .select cs b)
    (hQ : ∀ c a w, Q (.panic c) (a.put oi.dst v) w → Q (.panic c) a w) {K : Act → World → Prop} {a : Act} {w : World}
    (hy : YieldsC P md ops S i oi v a) (h : wpOp P ops Q j K (a.put oi.dst v) w) :
    wpOp P ops Q j (fun a' w' => YieldsC P md ops S i oi v a' ∧ K (a'.put oi.dst v) w') a w := by
  obtain ⟨h1, h2, h3⟩ := Oper.apart_spec hap
  have keep : ∀ (a : Act), YieldsC P md ops S i oi v a → ∀ u, YieldsC P md ops S i oi v (a.put oj.dst u) := fun a hy u =>
    hy.of_same (execOp_put oi hsi a oj.dst u h3) (wanted_put oi a oj.dst u h3)
  have keepD : ∀ d, YieldsC P md ops S i oi v { a with defers := d :: a.defers } := fun d => hy.of_same rfl rfl
  unfold wpOp at *
  simp only [hj] at *
  rw [wanted_put oj a oi.dst v h1] at h
  split
  · rename_i hw
    simp only [hw, if_true] at h
    rcases h with h | ⟨hasks, hlets⟩
    case inr => exact .inr ⟨by unfold Oper.asks at *; rw [execOp_put oj hsj a oi.dst v h1] at hasks; exact hasks, hlets⟩
    refine .inl ?_
    unfold Oper.wp at *
    rw [execOp_put oj hsj a oi.dst v h1] at h
    generalize (execOp a.eval oj).run P w = r at *
    cases r with
    | ok n w' =>
      cases n <;> simp only [Oper.upon] at h ⊢
      case value u => exact ⟨keep a hy u, by rw [← Act.put_comm a v u h2]; exact h⟩
      case skip => exact ⟨keep a hy _, by rw [← Act.put_comm a v undef h2]; exact h⟩
      case defer d =>
        refine ⟨keep _ (keepD d) _, ?_⟩
        rw [← Act.put_comm _ v undef h2, ← Act.put_defers]
        exact h
      case enter f args =>
        refine Calls.mono h fun e w'' he => ?_
        cases e with
        | returned u => exact ⟨keep a hy u, by rw [← Act.put_comm a v u h2]; exact he⟩
        | panicked c => exact hQ _ _ _ he
        | outgrown => exact he
      case row row args => exact Rows.mono h fun u w'' he => ⟨keep a hy u, by rw [← Act.put_comm a v u h2]; exact he⟩
    | halt x w' =>
      cases x <;> simp only [Oper.upon] at h ⊢
      case panic u => exact hQ _ _ _ h
  · rename_i hw
    simp only [hw] at h
    exact ⟨keep a hy _, by rw [← Act.put_comm a v undef h2]; exact h⟩

/-- The marks behind operation j: only the operations of T are marked. -/
def mark (T : Nat → Bool) (M : Array Bool) (j : Nat) : Array Bool := if T j = true then M.setIfInBounds j true else M

/-- Whatever order is picked from here on, with any growth of the world ahead of each operation and behind the last, and S behind each. -/
def wpAnyR (P : Program) (md : Region.Mode) (ops : Array Oper) (Q : Exit → Act → World → Prop) (S : Array Bool → World → Prop) (T : Nat → Bool) : Nat → Array Bool → Array Bool → Act → World → Prop
  | 0, _, L, a, w => Region.ready md ops L = [] ∧ ∀ w', Rel w w' → Q .normal a w'
  | f + 1, M, L, a, w =>
    (Region.ready md ops L = [] → ∀ w', Rel w w' → Q .normal a w') ∧
    ∀ i ∈ Region.ready md ops L, ∀ w', Rel w w' → wpOp P ops Q i (fun a' w'' => S (mark T M i) w'' ∧ wpAnyR P md ops Q S T f (mark T M i) (L.setIfInBounds i true) a' w'') a w'

theorem wpAny_of_R : ∀ (f : Nat) (M L : Array Bool) (a : Act) (w : World), wpAnyR P md ops Q S T f M L a w → wpAny P md ops Q f L a w
  | 0, _, _, _, _, h => ⟨h.1, h.2 _ (Rel.refl _)⟩
  | f + 1, _, _, _, _, h => ⟨fun h0 => h.1 h0 _ (Rel.refl _), fun i hi => wpOp_mono (fun a' w' h' => wpAny_of_R f _ _ a' w' h'.2) (h.2 i hi _ (Rel.refl _))⟩

theorem wpAnyR_rel : ∀ (f : Nat) {M L : Array Bool} {a : Act} {w w' : World}, wpAnyR P md ops Q S T f M L a w → Rel w w' → wpAnyR P md ops Q S T f M L a w'
  | 0, _, _, _, _, _, h, hr => ⟨h.1, fun w'' hw => h.2 w'' (hr.trans hw)⟩
  | _ + 1, _, _, _, _, _, h, hr => ⟨fun h0 w'' hw => h.1 h0 w'' (hr.trans hw), fun i hi w'' hw => h.2 i hi w'' (hr.trans hw)⟩

theorem mark_sub {M L : Array Bool} {j : Nat} (hj : L.getD j true = false) (h : ∀ k, M.getD k false = true → L.getD k false = true) : ∀ k, (mark T M j).getD k false = true → (L.setIfInBounds j true).getD k false = true := by
  intro k hk
  by_cases e : j = k
  · subst e; exact getD_set_self hj
  · unfold mark at hk
    split at hk
    · rw [getD_set_ne false e] at hk
      exact getD_set_true (h k hk)
    · exact getD_set_true (h k hk)

theorem ahead_of {M L : Array Bool} {i : Nat} (hc : Closed md ops L) (hs : ∀ k, M.getD k false = true → L.getD k false = true) (hi : L.getD i true = false) : Ahead md ops i M := by
  intro k hd
  cases hk : M.getD k false with
  | false => rfl
  | true =>
    have := hc.dep _ k i (hs k hk) hd
    rw [getD_both hi] at this
    cases this

theorem wpAnyR_first {i : Nat} {oi : Oper} {v : Value} (hi : ops[i]? = some oi) (hT : T i = false) (hsel : ∀ (j : Nat) (o : Oper) cs b, ops[j]? = some o → o.op ≠ .select cs b)
    (hQ : ∀ c a w, Q (.panic c) (a.put oi.dst v) w → Q (.panic c) a w) (hst : ∀ M w w', S M w → Rel w w' → S M w') :
    ∀ (f : Nat) (M L : Array Bool) (a : Act) (w : World), Closed md ops L → (∀ k, M.getD k false = true → L.getD k false = true) →
      (∀ j oj, ops[j]? = some oj → j ≠ i → L.getD j true = false → (∀ e ∈ oj.after, Region.binds md e = true → e.on ≠ i) → oi.apart ops oj = true) →
      i ∈ Region.ready md ops L → YieldsC P md ops S i oi v a → S M w →
      wpAnyR P md ops Q S T f M (L.setIfInBounds i true) (a.put oi.dst v) w → wpAnyR P md ops Q S T (f + 1) M L a w := by
  have hmark : ∀ M, mark T M i = M := fun M => by unfold mark; rw [hT]; rfl
  intro f
  induction f with
  | zero =>
    intro M L a w hcl hsub _ hr hy hS H
    refine ⟨fun h => (by rw [h] at hr; cases hr), fun j hj w1 hw1 => ?_⟩
    by_cases hji : j = i
    · subst hji
      refine hy.wpOp hi (ahead_of hcl hsub (mem_ready.1 hr).1) (hst _ _ _ hS hw1) fun w2 hw2 => ?_
      rw [hmark]
      exact ⟨hst _ _ _ hS (hw1.trans hw2), wpAnyR_rel _ H (hw1.trans hw2)⟩
    · have := ready_mono hj hji
      rw [H.1] at this
      cases this
  | succ f ih =>
    intro M L a w hcl hsub hfree hr hy hS H
    refine ⟨fun h => (by rw [h] at hr; cases hr), fun j hj w1 hw1 => ?_⟩
    by_cases hji : j = i
    · subst hji
      refine hy.wpOp hi (ahead_of hcl hsub (mem_ready.1 hr).1) (hst _ _ _ hS hw1) fun w2 hw2 => ?_
      rw [hmark]
      exact ⟨hst _ _ _ hS (hw1.trans hw2), wpAnyR_rel _ H (hw1.trans hw2)⟩
    · have h1 := H.2 j (ready_mono hj hji) w1 hw1
      obtain ⟨hjun, oj, hoj, hall⟩ := mem_ready.1 hj
      have hnot : ∀ e ∈ oj.after, Region.binds md e = true → e.on ≠ i := fun e he hb heq => by
        have h1 := hall e he hb
        have h0 := (mem_ready.1 hr).1
        rw [heq, getD_both h0] at h1
        cases h1
      have h2 := wpOp_putC hoj (hfree j oj hoj hji hjun hnot) (fun cs b => hsel i oi cs b hi) (fun cs b => hsel j oj cs b hoj) hQ hy h1
      have hfree' : ∀ k ok, ops[k]? = some ok → k ≠ i → (L.setIfInBounds j true).getD k true = false →
          (∀ e ∈ ok.after, Region.binds md e = true → e.on ≠ i) → oi.apart ops ok = true := fun k ok hk hki hun hno => by
        refine hfree k ok hk hki ?_ hno
        by_cases hjk : j = k
        · subst hjk; exact hjun
        · rw [getD_set_ne true hjk] at hun; exact hun
      refine wpOp_mono (fun a' w' h3 => ⟨h3.2.1, ih _ (L.setIfInBounds j true) a' w' (hcl.set hj) (mark_sub hjun hsub) hfree' (ready_mono hr (Ne.symm hji)) h3.1 h3.2.1 ?_⟩) h2
      rw [Array.setIfInBounds_comm _ _ hji]
      exact h3.2.2

/-- The operations cs, taken first one after the other, written out. -/
def wpCalm (P : Program) (md : Region.Mode) (ops : Array Oper) (S : Array Bool → World → Prop) (F : Act → Prop) : List Nat → Act → Prop
  | [], a => F a
  | i :: cs, a => ∃ o, ops[i]? = some o ∧
      if Region.wanted o (yielded ops a.tmps) then ∃ v, (∀ M w, Ahead md ops i M → S M w → calmAt P o a w v) ∧ wpCalm P md ops S F cs (a.put o.dst v)
      else wpCalm P md ops S F cs (a.put o.dst undef)

theorem wpCalm_nil {F : Act → Prop} {a : Act} (h : F a) : wpCalm P md ops S F [] a := h
theorem wpCalm_step {F : Act → Prop} {i : Nat} {cs : List Nat} {a : Act} {o : Oper} (ho : ops[i]? = some o) {v : Value}
    (hw : Region.wanted o (yielded ops a.tmps) = true) (hv : ∀ M w, Ahead md ops i M → S M w → calmAt P o a w v) (h : wpCalm P md ops S F cs (a.put o.dst v)) : wpCalm P md ops S F (i :: cs) a :=
  ⟨o, ho, by rw [if_pos hw]; exact ⟨v, hv, h⟩⟩
theorem wpCalm_skip {F : Act → Prop} {i : Nat} {cs : List Nat} {a : Act} {o : Oper} (ho : ops[i]? = some o)
    (hw : Region.wanted o (yielded ops a.tmps) = false) (h : wpCalm P md ops S F cs (a.put o.dst undef)) : wpCalm P md ops S F (i :: cs) a :=
  ⟨o, ho, by rw [if_neg (by rw [hw]; exact Bool.false_ne_true)]; exact h⟩

/-- The operation at a place, by looking. -/
def nthO : List Oper → Nat → Option Oper
  | [], _ => none
  | o :: _, 0 => some o
  | _ :: l, n + 1 => nthO l n
theorem nthO_eq : ∀ (l : List Oper) (i : Nat), nthO l i = l[i]?
  | [], _ => rfl
  | _ :: _, 0 => rfl
  | _ :: l, n + 1 => by rw [List.getElem?_cons_succ]; exact nthO_eq l n
theorem nthO_ops {i : Nat} {o : Oper} (h : nthO ops.toList i = some o) : ops[i]? = some o := by
  rw [nthO_eq] at h; simpa using h

/-- One operation at a time, what follows behind a variable. -/
theorem wpCalm_go {F : Act → Prop} {i : Nat} {cs : List Nat} {a : Act} {o : Oper} (ho : nthO ops.toList i = some o) (hw : Region.wanted o (yielded ops a.tmps) = true)
    (h : ∀ K : Act → Prop, (∀ a, wpCalm P md ops S F cs a → K a) → ∃ v, (∀ M w, Ahead md ops i M → S M w → calmAt P o a w v) ∧ K (a.put o.dst v)) : wpCalm P md ops S F (i :: cs) a := by
  obtain ⟨v, hv, hk⟩ := h _ (fun _ h => h)
  exact wpCalm_step (nthO_ops ho) hw hv hk
theorem wpCalm_no {F : Act → Prop} {i : Nat} {cs : List Nat} {a : Act} {o : Oper} (ho : nthO ops.toList i = some o) (hw : Region.wanted o (yielded ops a.tmps) = false)
    (h : ∀ K : Act → Prop, (∀ a, wpCalm P md ops S F cs a → K a) → K (a.put o.dst undef)) : wpCalm P md ops S F (i :: cs) a :=
  wpCalm_skip (nthO_ops ho) hw (h _ (fun _ h => h))

/-- May the operations cs be taken first, in this order? -/
def calmB (md : Region.Mode) (ops : Array Oper) : List Nat → Array Bool → Bool
  | [], _ => true
  | i :: cs, L => (Region.ready md ops L).contains i && Region.free md ops L i && calmB md ops cs (L.setIfInBounds i true)
/-- What has come up behind them. -/
def takenB : List Nat → Array Bool → Array Bool
  | [], L => L
  | i :: cs, L => takenB cs (L.setIfInBounds i true)

theorem wpAnyR_calms (hsel : Region.noSelect ops = true) (hQ : ∀ c a d v w, Q (.panic c) (Act.put a d v) w → Q (.panic c) a w) (hst : ∀ M w w', S M w → Rel w w' → S M w') (f : Nat) (M : Array Bool) (w : World) (hS : S M w) :
    ∀ (cs : List Nat) (L : Array Bool) (a : Act), (∀ i ∈ cs, T i = false) → Closed md ops L → (∀ k, M.getD k false = true → L.getD k false = true) → calmB md ops cs L = true →
      wpCalm P md ops S (fun a' => wpAnyR P md ops Q S T f M (takenB cs L) a' w) cs a → wpAnyR P md ops Q S T (f + cs.length) M L a w := by
  intro cs
  induction cs with
  | nil => intro L a _ _ _ _ h; exact h
  | cons i cs ih =>
    intro L a hTs hcl hsub hB h
    simp only [calmB, Bool.and_eq_true] at hB
    obtain ⟨⟨hr, hf⟩, hB'⟩ := hB
    have hr' : i ∈ Region.ready md ops L := by simpa using hr
    obtain ⟨o, ho, hh⟩ := h
    have hsub' : ∀ k, M.getD k false = true → (L.setIfInBounds i true).getD k false = true := fun k hk => getD_set_true (hsub k hk)
    by_cases hw : Region.wanted o (yielded ops a.tmps) = true
    · rw [if_pos hw] at hh
      obtain ⟨v, hv, hn⟩ := hh
      exact wpAnyR_first ho (hTs i (by simp)) (Region.noSelect_spec hsel) (fun c a w => hQ c a _ _ w) hst (f + cs.length) M L a w hcl hsub (Region.free_spec ho hf) hr' (.inl ⟨hw, hv⟩) hS
        (ih _ _ (fun j hj => hTs j (by simp [hj])) (hcl.set hr') hsub' hB' hn)
    · rw [if_neg hw] at hh
      exact wpAnyR_first ho (hTs i (by simp)) (Region.noSelect_spec hsel) (fun c a w => hQ c a _ _ w) hst (f + cs.length) M L a w hcl hsub (Region.free_spec ho hf) hr' (.inr ⟨by simpa using hw, rfl⟩) hS
        (ih _ _ (fun j hj => hTs j (by simp [hj])) (hcl.set hr') hsub' hB' hh)

/-! ### Behind the calm operations -/
theorem wpAnyR_done {f : Nat} {M L : Array Bool} {a : Act} {w : World} (hr : Region.ready md ops L = []) (h : ∀ w', Rel w w' → Q .normal a w') : wpAnyR P md ops Q S T f M L a w := by
  cases f with
  | zero => exact ⟨hr, h⟩
  | succ f => exact ⟨fun _ => h, fun i hi => (by rw [hr] at hi; cases hi)⟩

theorem wpAnyR_end {f : Nat} {M L : Array Bool} {a : Act} {w : World} (hr : Region.ready md ops L = []) (h : ∀ w', Rel w w' → Q .normal a w') : wpAnyR P md ops (NoPanic Q) S T f M L a w :=
  wpAnyR_done hr h

/-- Each of the operations rs comes up next. -/
def AllR (P : Program) (md : Region.Mode) (ops : Array Oper) (Q : Exit → Act → World → Prop) (S : Array Bool → World → Prop) (T : Nat → Bool) (f : Nat) (M L : Array Bool) (a : Act) (w : World) (rs : List Nat) : Prop :=
  ∀ i ∈ rs, ∀ w', Rel w w' → wpOp P ops Q i (fun a' w'' => S (mark T M i) w'' ∧ wpAnyR P md ops Q S T f (mark T M i) (L.setIfInBounds i true) a' w'') a w'
theorem AllR.nil {f : Nat} {M L : Array Bool} {a : Act} {w : World} : AllR P md ops Q S T f M L a w [] := fun _ h => by cases h
/-- The way back into the region, kept shut while an operation is run. -/
def Back (p : Prop) : Prop := p
theorem Back.out {p : Prop} (h : Back p) : p := h
theorem AllR.cons {f : Nat} {M L : Array Bool} {a : Act} {w : World} {i : Nat} {o : Oper} {rs : List Nat} (ho : nthO ops.toList i = some o)
    (h : ∀ w', Rel w w' → ∀ K' : Act → World → Prop, Back (∀ a w, S (mark T M i) w → wpAnyR P md ops Q S T f (mark T M i) (L.setIfInBounds i true) a w → K' a w) →
      if Region.wanted o (yielded ops a.tmps) = true then Oper.wp P o a w' K' Q else K' (a.put o.dst undef) w')
    (hs : AllR P md ops Q S T f M L a w rs) : AllR P md ops Q S T f M L a w (i :: rs) := fun j hj => by
  rcases List.mem_cons.1 hj with rfl | hj
  · exact fun w' hw' => wpOp_step (nthO_ops ho) (fun K' hK => h w' hw' K' (fun a w hS hW => hK a w ⟨hS, hW⟩))
  · exact hs j hj
theorem wpAnyR_ready {rs : List Nat} {f : Nat} {M L : Array Bool} {a : Act} {w : World} (hr : Region.ready md ops L = rs) (hne : rs ≠ [])
    (h : AllR P md ops Q S T f M L a w rs) : wpAnyR P md ops Q S T (f + 1) M L a w :=
  ⟨fun h0 => absurd (hr.symm.trans h0) hne, fun i hi => h i (by rw [← hr]; exact hi)⟩

/-- **The region.** cs: the operations that are taken first, in the order of the text; ts: how many are left; T: which of those are marked; S: what the region's loads and calls ask of the world. -/
theorem wp_region_calm {id : Nat} {a : Act} {w : World} (S : Array Bool → World → Prop) (T : Nat → Bool) (cs : List Nat) (ts : Nat) (hm : P.follows .mixedOrders = true)
    (hB : (Region.noSelect ops && decide (cs.length + ts = ops.size) && (cs.all fun i => !T i) && calmB .any ops cs (Array.replicate ops.size false)) = true)
    (hst : ∀ M w w', S M w → Rel w w' → S M w') (hS : S (Array.replicate ops.size false) w)
    (h : ∀ w0, Rel w w0 → wpCalm P .any ops S (fun a' => wpAnyR P .any ops (NoPanic Q) S T ts (Array.replicate ops.size false) (takenB cs (Array.replicate ops.size false)) a' w0) cs a) :
    (Code.region id ops true).wp P Q a w := by
  simp only [Bool.and_eq_true, decide_eq_true_eq, List.all_eq_true, Bool.not_eq_true'] at hB
  obtain ⟨⟨⟨h1, h2⟩, h3⟩, h4⟩ := hB
  refine wp_region_noPanic (wp_region_any hm (wpAny_of_R (S := S) (T := T) _ (Array.replicate ops.size false) _ _ _ ?_))
  have hcl : Closed .any ops (Array.replicate ops.size false) := fun j oj _ hl => by
    rw [getD_replicate_false] at hl; cases hl
  have := wpAnyR_calms (md := .any) (T := T) h1 (fun _ _ _ _ _ h => (h : False).elim) hst ts (Array.replicate ops.size false) _ (hst _ _ _ hS (Rel.draw w)) cs (Array.replicate ops.size false) a h3 hcl (fun k hk => hk) h4 (h _ (Rel.draw w))
  rw [show ts + cs.length = ops.size by omega] at this
  exact this

end
end Go.Proofs.YtkghmghjgikihaaDoor

/- A drawn region whose last operations lay two blocks and store into them: whatever order comes up, what follows is met once. Over any program. Its conditions are those of wpAnyR_two. -/
namespace Go.Proofs.YtkghmghjgikihaaDoor
open Go.RowKit

section
variable {P : Program} {ops : Array Oper} {Q Q' : Exit → Act → World → Prop} {md : Region.Mode} {S : Array Bool → World → Prop} {T : Nat → Bool}

theorem operWp_imp {o : Oper} {a : Act} {w : World} {K K' : Act → World → Prop} (h : ∀ a w, K a w → K' a w) (hq : ∀ e a w, Q e a w → Q' e a w)
    (hh : o.wp P a w K Q) : o.wp P a w K' Q' := by
  have hl : LetsOut Q → LetsOut Q' := fun ⟨a, w, h⟩ => ⟨a, w, hq _ _ _ h⟩
  unfold Oper.wp at *
  generalize (execOp a.eval o).run P w = r at *
  cases r with
  | ok n w' =>
    cases n <;> simp only [Oper.upon] at hh ⊢ <;>
      first
        | exact h _ _ hh
        | exact Calls.mono hh (fun e w'' he => by cases e <;> first | exact h _ _ he | exact hq _ _ _ he | exact hl he)
        | exact Rows.mono hh (fun _ _ he => h _ _ he)
  | halt x w' => cases x <;> simp only [Oper.upon] at hh ⊢ <;> first | exact hh | exact hq _ _ _ hh | exact hl hh

theorem wpOp_imp {i : Nat} {a : Act} {w : World} {K K' : Act → World → Prop} (h : ∀ a w, K a w → K' a w) (hq : ∀ e a w, Q e a w → Q' e a w)
    (hh : wpOp P ops Q i K a w) : wpOp P ops Q' i K' a w := by
  have hl : LetsOut Q → LetsOut Q' := fun ⟨a, w, h⟩ => ⟨a, w, hq _ _ _ h⟩
  unfold wpOp at *
  split
  · exact h _ _ (by simpa [*] using hh)
  · rename_i o ho
    simp only [ho] at hh
    split
    · rename_i hw; simp only [hw, if_true] at hh; exact hh.imp (operWp_imp h hq) (fun h => ⟨h.1, hl h.2⟩)
    · rename_i hw; simp only [hw] at hh; exact h _ _ hh

theorem wpAnyR_imp (hq : ∀ e a w, Q e a w → Q' e a w) : ∀ (f : Nat) (M L : Array Bool) (a : Act) (w : World), wpAnyR P md ops Q S T f M L a w → wpAnyR P md ops Q' S T f M L a w
  | 0, _, _, _, _, h => ⟨h.1, fun w' hw => hq _ _ _ (h.2 w' hw)⟩
  | f + 1, _, _, _, _, h => ⟨fun h0 w' hw => hq _ _ _ (h.1 h0 w' hw), fun i hi w' hw => wpOp_imp (fun a' w'' h' => ⟨h'.1, wpAnyR_imp hq f _ _ a' w'' h'.2⟩) hq (h.2 i hi w' hw)⟩

/-- Two new blocks of two cells each. -/
structure Two (W : World) (b1 b2 : Nat) (u0 u1 v0 v1 : Value) (w : World) : Prop where
  rel : Rel W w
  lo1 : W.heap.size ≤ b1
  lo2 : W.heap.size ≤ b2
  ne : b1 ≠ b2
  in1 : b1 < w.heap.size
  in2 : b2 < w.heap.size
  c10 : w.cell? ⟨b1, 0, none⟩ = some u0
  c11 : w.cell? ⟨b1, 1, none⟩ = some u1
  c20 : w.cell? ⟨b2, 0, none⟩ = some v0
  c21 : w.cell? ⟨b2, 1, none⟩ = some v1
  f10 : w.frozen? ⟨b1, 0, none⟩ = false
  f11 : w.frozen? ⟨b1, 1, none⟩ = false
  f20 : w.frozen? ⟨b2, 0, none⟩ = false
  f21 : w.frozen? ⟨b2, 1, none⟩ = false

def TwoR (W : World) (a : Act) (d1 d2 : Nat) (u0 u1 v0 v1 : Value) (a' : Act) (w' : World) : Prop :=
  ∃ b1 b2, a' = (a.put (some d1) (.pointer (some ⟨b1, 0, none⟩))).put (some d2) (.pointer (some ⟨b2, 0, none⟩)) ∧ Two W b1 b2 u0 u1 v0 v1 w'

theorem wpAnyR_two {a : Act} {w W : World} {d1 d2 : Nat} {u0 u1 v0 v1 : Value} {f : Nat} {M L : Array Bool}
    (h : wpAnyR P md ops (NoPanic fun e a' w' => e = .normal ∧ TwoR W a d1 d2 u0 u1 v0 v1 a' w') S T f M L a w)
    (hr : ∀ b1 b2 w', Two W b1 b2 u0 u1 v0 v1 w' → Q .normal ((a.put (some d1) (.pointer (some ⟨b1, 0, none⟩))).put (some d2) (.pointer (some ⟨b2, 0, none⟩))) w') :
    wpAnyR P md ops (NoPanic Q) S T f M L a w := by
  refine wpAnyR_imp (fun e a' w' hh => ?_) _ _ _ _ _ h
  cases e
  case normal =>
    obtain ⟨_, b1, b2, rfl, ht⟩ := (hh : _ ∧ TwoR W a d1 d2 u0 u1 v0 v1 a' w')
    exact hr b1 b2 w' ht
  all_goals first | exact (hh : False).elim | (have := (hh : _ ∧ _).1; cases this)
end
end Go.Proofs.YtkghmghjgikihaaDoor

/- Contracts of size, gcd and times of the program and of the reference. No conditions but those printed. -/
namespace Go.Proofs.YtkghmghjgikihaaDoor
open Go.RowKit Frac

theorem ret_u {k : IntKind} {a b : Int} (h : a = b) : Ending.returned (.int k a) = .returned (.int k b) := by rw [h]

set_option maxHeartbeats 400000 in
theorem size_any (x : Int) (w : World) (h0 : -9223372036854775808 ≤ x) (h1 : x ≤ 9223372036854775807) :
    Calls Tryd.prog 107 #[.int .i64 x] w fun e w' => e = .returned (.int .u64 (x.natAbs : Int)) ∧ w = w' := by
  by_cases hx : x < 0
  · go_enter Tryd.func107, Tryd.ntmps107
    go_wp2
    go_ret
    refine ⟨ret_u ?_, rfl⟩
    simp only [IntKind.wrap_u64]; omega
  · go_enter Tryd.func107, Tryd.ntmps107
    go_wp2
    go_ret
    refine ⟨ret_u ?_, rfl⟩
    first | omega | (simp only [IntKind.wrap_u64]; omega)

set_option maxHeartbeats 400000 in
theorem rsize_any (x : Int) (w : World) (h0 : -9223372036854775808 ≤ x) (h1 : x ≤ 9223372036854775807) :
    Calls Tryd.prog 79 #[.int .i64 x] w fun e w' => e = .returned (.int .u64 (x.natAbs : Int)) ∧ w = w' := by
  by_cases hx : x < 0
  · go_enter Tryd.func79, Tryd.ntmps79
    go_wp2
    go_ret
    refine ⟨ret_u ?_, rfl⟩
    first | omega | (simp only [IntKind.wrap_u64]; omega)
  · go_enter Tryd.func79, Tryd.ntmps79
    go_wp2
    go_ret
    refine ⟨ret_u ?_, rfl⟩
    first | omega | (simp only [IntKind.wrap_u64]; omega)

attribute [local go_sem] calmUpon

theorem gcd_step (x y a b : Nat) (h : Nat.gcd x y = Nat.gcd a b) : Nat.gcd y (x % y) = Nat.gcd a b := by
  rw [← h, Nat.gcd_comm x y, Nat.gcd_rec y x, Nat.gcd_comm]


theorem nmod_cast (x y : Nat) : Int.tmod (x : Int) (y : Int) = ((x % y : Nat) : Int) := by
  rw [Int.tmod_eq_emod_of_nonneg (by omega)]; rfl

set_option maxHeartbeats 400000 in
theorem gcd_any (a b : Nat) (w : World) (ha : a < 18446744073709551616) (hb : b < 18446744073709551616) :
    Calls Tryd.prog 106 #[.int .u64 a, .int .u64 b] w fun e w' => e = .returned (.int .u64 (Nat.gcd a b : Nat)) ∧ Rel w w' := by
  go_enter Tryd.func106, Tryd.ntmps106
  go_wp2
  go_loopw [0, 1] (fun s t wr => ∃ x y : Nat, s = .int .u64 x ∧ t = .int .u64 y ∧ x < 18446744073709551616 ∧ y < 18446744073709551616 ∧ Hid (Nat.gcd x y = Nat.gcd a b) ∧ Rel w wr) (fun _ t _ => (intOf t).toNat)
  case atStart => exact ⟨a, b, rfl, rfl, ha, hb, rfl, Rel.refl _⟩
  case round =>
    obtain ⟨x, y, rfl, rfl, hx, hy, hg, hbw⟩ := hrel
    by_cases hz : y = 0
    · subst hz
      go_wp2
      go_ret
      exact ⟨ret_u (by have := hg.out; rw [Nat.gcd_zero_right] at this; rw [this]), hbw⟩
    · have hz' : ((y : Int) != 0) = true := by simpa using hz
      have hz2 : (0 : Int) < y := by omega
      have hmod := nmod_cast x y
      have hlt : x % y < y := Nat.mod_lt _ (by omega)
      go_wp2
      refine wp_region_calm (fun _ _ => True) (fun _ => false) [0, 1, 2, 3, 4, 5] 0 (by kernel_rfl) (by kernel_rfl) (fun _ _ _ _ _ => trivial) trivial (fun w0 h0 => ?_)
      iterate 6
        first
          | (refine wpCalm_no rfl rfl (fun K hK => hK _ ?_); clear hK K)
          | (refine wpCalm_go rfl rfl (fun K hK => ?_)
             apply Exists.intro
             refine ⟨fun M w hM hS => ?_, hK _ ?_⟩
             · unfold calmAt
               go_simp
               exact ⟨rfl, Rel.refl _⟩
             clear hK K)
      refine wpCalm_nil (wpAnyR_end (by kernel_rfl) (fun w1 h1 => ?_))
      simp only [Act.put, List.setIfInBounds_toArray, List.set_cons_zero, List.set_cons_succ]
      go_wp2
      go_roundw
      case rel => exact ⟨y, x % y, rfl, rfl, hy, by omega, gcd_step x y a b hg.out, hbw.trans (h0.trans h1)⟩
      case measure => simp [intOf]; omega

set_option maxHeartbeats 400000 in
theorem rgcd_any (a b : Nat) (w : World) (ha : a < 18446744073709551616) (hb : b < 18446744073709551616) :
    Calls Tryd.prog 78 #[.int .u64 a, .int .u64 b] w fun e w' => e = .returned (.int .u64 (Nat.gcd a b : Nat)) ∧ Rel w w' := by
  go_enter Tryd.func78, Tryd.ntmps78
  go_wp2
  go_loopw [0, 1] (fun s t wr => ∃ x y : Nat, s = .int .u64 x ∧ t = .int .u64 y ∧ x < 18446744073709551616 ∧ y < 18446744073709551616 ∧ Hid (Nat.gcd x y = Nat.gcd a b) ∧ Rel w wr) (fun _ t _ => (intOf t).toNat)
  case atStart => exact ⟨a, b, rfl, rfl, ha, hb, rfl, Rel.refl _⟩
  case round =>
    obtain ⟨x, y, rfl, rfl, hx, hy, hg, hbw⟩ := hrel
    by_cases hz : y = 0
    · subst hz
      go_wp2
      go_ret
      exact ⟨ret_u (by have := hg.out; rw [Nat.gcd_zero_right] at this; rw [this]), hbw⟩
    · have hz' : ((y : Int) != 0) = true := by simpa using hz
      have hz2 : (0 : Int) < y := by omega
      have hmod := nmod_cast x y
      have hlt : x % y < y := Nat.mod_lt _ (by omega)
      go_wp2
      refine wp_region_calm (fun _ _ => True) (fun _ => false) [0, 1, 2, 3, 4, 5] 0 (by kernel_rfl) (by kernel_rfl) (fun _ _ _ _ _ => trivial) trivial (fun w0 h0 => ?_)
      iterate 6
        first
          | (refine wpCalm_no rfl rfl (fun K hK => hK _ ?_); clear hK K)
          | (refine wpCalm_go rfl rfl (fun K hK => ?_)
             apply Exists.intro
             refine ⟨fun M w hM hS => ?_, hK _ ?_⟩
             · unfold calmAt
               go_simp
               exact ⟨rfl, Rel.refl _⟩
             clear hK K)
      refine wpCalm_nil (wpAnyR_end (by kernel_rfl) (fun w1 h1 => ?_))
      simp only [Act.put, List.setIfInBounds_toArray, List.set_cons_zero, List.set_cons_succ]
      go_wp2
      go_roundw
      case rel => exact ⟨y, x % y, rfl, rfl, hy, by omega, gcd_step x y a b hg.out, hbw.trans (h0.trans h1)⟩
      case measure => simp [intOf]; omega

end Go.Proofs.YtkghmghjgikihaaDoor
