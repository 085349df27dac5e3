/- Lemmas, each as it is printed; no conditions but those printed. -/
import Derived.Shelf.Strings.Builder1
import Derived.Shelf.Strings.Builder2
import Derived.Shelf.Small.Bits
import Derived.Shelf.Strings.BuilderF
import Derived.Shelf.Strconv.Itoa0
import Derived.Shelf.Strconv.Itoa1
import Derived.Shelf.LaysM
import Derived.Shelf.Strconv.Itoa2
import Derived.Shelf.Strconv.Itoa3
import Derived.Shelf.Strings.Search1
import Derived.Shelf.Strings.Search2
import Derived.Shelf.Strings.Cut
import Derived.Shelf.Strings.Shaped
import Derived.Shelf.Strings.Prefix
import Derived.Test.YthmlhheceihcbaaGreatDoorProg
import Derived.OrdersHeld
import Derived.Deep.Quiet
import Derived.StillTail
import Derived.Deep.RegionHeld3
import Derived.Below
import Derived.WalkKit
import Derived.WalkSpells
import Derived.WalkLawsBesides
import Derived.Lib.Hide
import Derived.Shelf.Spec.BitsCarry
import Derived.Laws.BitsAllLaws
import Derived.Laws.BitsLemmas
/-
 DERIVED: THE SHELF's CONTRACTS AT THIS DUMP, IN PLAIN WORDS (tools/lay-plain.mjs out of 'TryzShelf.lean', which tools/lay-shelf.mjs wrote): THE SAME DECLARATIONS UNDER THE SAME NAMES: 'import', 'namespace', 'open', 'def', 'theorem' AND NOTHING ELSE: no command of the shelf's: FOR A HAND-IN. Each laying: the table of numbers ('.._ren') and one theorem, a field a fact of the dump's own or the kernel's comparison; each contract: ONE APPLICATION.
-/
import Derived.Shelf.Strings.Builder1
namespace Go.Proofs
open Go.Shelf
def Tryz.lays169_ren : Go.Shelf.Ren := ⟨fun | 169 => 50 | n => n, fun | 70 => 95 | 9 => 9 | 0 => 0 | 72 => 98 | 37 => 96 | 127 => 146 | 3 => 3 | 5 => 5 | n => n, fun | n => n⟩
theorem Tryz.lays169 : Go.Proofs.Lays.n169 Tryz.prog Tryz.lays169_ren := {
 mixed := by kernel_rfl
 f169 := Tryz.func50.trans (congrArg some (by kernel_rfl))
 t0 := Tryz.underlying0
 a0 := Tryz.isAgg0
 z0 := Tryz.sizeOf0
 v0 := Tryz.zeroValue0
 t3 := Tryz.underlying3
 a3 := Tryz.isAgg3
 z3 := Tryz.sizeOf3
 v3 := Tryz.zeroValue3
 t9 := Tryz.underlying9
 a9 := Tryz.isAgg9
 z9 := Tryz.sizeOf9
 v9 := Tryz.zeroValue9
 t37 := Tryz.underlying96
 a37 := Tryz.isAgg96
 z37 := Tryz.sizeOf96
 v37 := Tryz.zeroValue96
 t70 := Tryz.underlying95
 a70 := Tryz.isAgg95
 z70 := Tryz.sizeOf95
 v70 := Tryz.zeroValue95
 t72 := Tryz.underlying98
 a72 := Tryz.isAgg98
 z72 := Tryz.sizeOf98
 v72 := Tryz.zeroValue98
 t127 := Tryz.underlying146
 a127 := Tryz.isAgg146
 z127 := Tryz.sizeOf146
 v127 := Tryz.zeroValue146 }
theorem Tryz.Builder_Extra_169 : Builder.Extra Tryz.prog Tryz.lays169_ren := {
 sizeBuilder := by kernel_rfl
 liesBuilder := by kernel_rfl
 t5 := Tryz.underlying5
 a5 := Tryz.isAgg5
 z5 := Tryz.sizeOf5
 v5 := Tryz.zeroValue5
 infoByte := by kernel_rfl
 cellsByte := by kernel_rfl
 sizeByte := by kernel_rfl
 neB5 := by decide }
open Go.RowKit in
theorem Tryz.Builder_String_any (B b : Nat) (l : List UInt8) (w : World) (h : Lib.IsBuilder 98 5 B b (Lib.byteCells l) w) (hBw : B <= w.heap.size) :
  Calls Tryz.prog 50 #[.pointer (some ⟨b, 0, none⟩)] w fun e w' => e = .returned (.string ⟨l.toArray⟩) /\ Below B w w' := Any.Builder_String_any Tryz.lays169 Tryz.Builder_Extra_169 B b l w h hBw
def Tryz.lays165_ren : Go.Shelf.Ren := ⟨fun | 165 => 89 | 240 => 88 | 241 => 129 | 276 => 128 | 277 => 165 | n => n, fun | 70 => 95 | 3 => 3 | 0 => 0 | 4 => 4 | 9 => 9 | 20 => 20 | 72 => 98 | 37 => 96 | 164 => 173 | 5 => 5 | n => n, fun | n => n⟩
theorem Tryz.lays165 : Go.Proofs.Lays.n165 Tryz.prog Tryz.lays165_ren := {
 mixed := by kernel_rfl
 f165 := Tryz.func89.trans (congrArg some (by kernel_rfl))
 f240 := Tryz.func88.trans (congrArg some (by kernel_rfl))
 f241 := Tryz.func129.trans (congrArg some (by kernel_rfl))
 f276 := Tryz.func128.trans (congrArg some (by kernel_rfl))
 f277 := Tryz.func165.trans (congrArg some (by kernel_rfl))
 t0 := Tryz.underlying0
 a0 := Tryz.isAgg0
 z0 := Tryz.sizeOf0
 v0 := Tryz.zeroValue0
 t3 := Tryz.underlying3
 a3 := Tryz.isAgg3
 z3 := Tryz.sizeOf3
 v3 := Tryz.zeroValue3
 t4 := Tryz.underlying4
 a4 := Tryz.isAgg4
 z4 := Tryz.sizeOf4
 v4 := Tryz.zeroValue4
 t9 := Tryz.underlying9
 a9 := Tryz.isAgg9
 z9 := Tryz.sizeOf9
 v9 := Tryz.zeroValue9
 t20 := Tryz.underlying20
 a20 := Tryz.isAgg20
 z20 := Tryz.sizeOf20
 v20 := Tryz.zeroValue20
 t37 := Tryz.underlying96
 a37 := Tryz.isAgg96
 z37 := Tryz.sizeOf96
 v37 := Tryz.zeroValue96
 t70 := Tryz.underlying95
 a70 := Tryz.isAgg95
 z70 := Tryz.sizeOf95
 v70 := Tryz.zeroValue95
 t72 := Tryz.underlying98
 a72 := Tryz.isAgg98
 z72 := Tryz.sizeOf98
 v72 := Tryz.zeroValue98
 t164 := Tryz.underlying173
 a164 := Tryz.isAgg173
 z164 := Tryz.sizeOf173
 v164 := Tryz.zeroValue173 }
theorem Tryz.Builder_Extra_165 : Builder.Extra Tryz.prog Tryz.lays165_ren := {
 sizeBuilder := by kernel_rfl
 liesBuilder := by kernel_rfl
 t5 := Tryz.underlying5
 a5 := Tryz.isAgg5
 z5 := Tryz.sizeOf5
 v5 := Tryz.zeroValue5
 infoByte := by kernel_rfl
 cellsByte := by kernel_rfl
 sizeByte := by kernel_rfl
 neB5 := by decide }
open Go.RowKit in
theorem Tryz.Builder_Grow_fresh (B b n : Nat) (w : World) (hB : B <= b) (hbk : w.heap[b]? = some (.cells #[.pointer none, .slice none 0 0] 98 (0, 0))) (hBw : B <= w.heap.size) (hn : n <= 281474976710656) :
  Calls Tryz.prog 89 #[.pointer (some ⟨b, 0, none⟩), .int .i64 n] w fun e w' => e = .returned (.tuple #[]) /\ (Lib.BuilderAt 98 5 B b (.pointer (some ⟨b, 0, none⟩)) [] w' /\ Below B w w') := Any.Builder_Grow_fresh Tryz.lays165 Tryz.Builder_Extra_165 B b n w hB hbk hBw hn
def Tryz.lays134_ren : Go.Shelf.Ren := ⟨fun | 134 => 192 | 129 => 187 | n => n, fun | 53 => 148 | 3 => 3 | 4 => 4 | 46 => 206 | 5 => 5 | 9 => 9 | n => n, fun | n => n⟩
theorem Tryz.lays134 : Go.Proofs.Lays.n134 Tryz.prog Tryz.lays134_ren := {
 mixed := by kernel_rfl
 f129 := Tryz.func187.trans (congrArg some (by kernel_rfl))
 f134 := Tryz.func192.trans (congrArg some (by kernel_rfl))
 t3 := Tryz.underlying3
 a3 := Tryz.isAgg3
 z3 := Tryz.sizeOf3
 v3 := Tryz.zeroValue3
 t4 := Tryz.underlying4
 a4 := Tryz.isAgg4
 z4 := Tryz.sizeOf4
 v4 := Tryz.zeroValue4
 t5 := Tryz.underlying5
 a5 := Tryz.isAgg5
 z5 := Tryz.sizeOf5
 v5 := Tryz.zeroValue5
 t9 := Tryz.underlying9
 a9 := Tryz.isAgg9
 z9 := Tryz.sizeOf9
 v9 := Tryz.zeroValue9
 t46 := Tryz.underlying206
 a46 := Tryz.isAgg206
 z46 := Tryz.sizeOf206
 v46 := Tryz.zeroValue206
 t53 := Tryz.underlying148
 a53 := Tryz.isAgg148
 z53 := Tryz.sizeOf148
 v53 := Tryz.zeroValue148 }
theorem Tryz.bits_LeadingZeros64 (x : Int) (w : World) (h0 : 0 <= x) (h1 : x <= 18446744073709551615) :
  Calls Tryz.prog 192 #[.int .u64 x] w fun e w' => e = .returned (.int .i64 (64 - (Lib.bitLen x.toNat : Int))) /\ w' = w := Any.bits_LeadingZeros64 Tryz.lays134 x w h0 h1
def Tryz.laysM171_ren : Go.Shelf.Ren := ⟨fun | 171 => 42 | 243 => 90 | 246 => 130 | 283 => 166 | 284 => 167 | 285 => 168 | 286 => 169 | 129 => 187 | 317 => 186 | 318 => 188 | 319 => 189 | 320 => 190 | 337 => 195 | 338 => 196 | n => n, fun | 3 => 3 | 9 => 9 | 2 => 2 | 4 => 4 | 171 => 190 | 0 => 0 | 53 => 148 | 37 => 96 | 5 => 5 | 173 => 193 | 212 => 203 | 51 => 204 | 20 => 20 | 213 => 205 | 46 => 206 | 232 => 212 | 233 => 213 | n => n, fun | 17 => 1 | 18 => 4 | 19 => 5 | n => n⟩
theorem Tryz.laysM171 : Go.Proofs.LaysM.n171 Tryz.prog Tryz.laysM171_ren := {
 mixed := by kernel_rfl
 f129 := Tryz.func187.trans (congrArg some (by kernel_rfl))
 f171 := Tryz.func42.trans (congrArg some (by kernel_rfl))
 f243 := Tryz.func90.trans (congrArg some (by kernel_rfl))
 f246 := Tryz.func130.trans (congrArg some (by kernel_rfl))
 f283 := Tryz.func166.trans (congrArg some (by kernel_rfl))
 f284 := Tryz.func167.trans (congrArg some (by kernel_rfl))
 f285 := Tryz.func168.trans (congrArg some (by kernel_rfl))
 f286 := Tryz.func169.trans (congrArg some (by kernel_rfl))
 f317 := Tryz.func186.trans (congrArg some (by kernel_rfl))
 f318 := Tryz.func188.trans (congrArg some (by kernel_rfl))
 f319 := Tryz.func189.trans (congrArg some (by kernel_rfl))
 f320 := Tryz.func190.trans (congrArg some (by kernel_rfl))
 f337 := Tryz.func195.trans (congrArg some (by kernel_rfl))
 f338 := Tryz.func196.trans (congrArg some (by kernel_rfl))
 t0 := Tryz.underlying0
 a0 := Tryz.isAgg0
 z0 := Tryz.sizeOf0
 v0 := Tryz.zeroValue0
 t2 := Tryz.underlying2
 a2 := Tryz.isAgg2
 z2 := Tryz.sizeOf2
 v2 := Tryz.zeroValue2
 t3 := Tryz.underlying3
 a3 := Tryz.isAgg3
 z3 := Tryz.sizeOf3
 v3 := Tryz.zeroValue3
 t4 := Tryz.underlying4
 a4 := Tryz.isAgg4
 z4 := Tryz.sizeOf4
 v4 := Tryz.zeroValue4
 t5 := Tryz.underlying5
 a5 := Tryz.isAgg5
 z5 := Tryz.sizeOf5
 v5 := Tryz.zeroValue5
 t9 := Tryz.underlying9
 a9 := Tryz.isAgg9
 z9 := Tryz.sizeOf9
 v9 := Tryz.zeroValue9
 t20 := Tryz.underlying20
 a20 := Tryz.isAgg20
 z20 := Tryz.sizeOf20
 v20 := Tryz.zeroValue20
 t37 := Tryz.underlying96
 a37 := Tryz.isAgg96
 z37 := Tryz.sizeOf96
 v37 := Tryz.zeroValue96
 t46 := Tryz.underlying206
 a46 := Tryz.isAgg206
 z46 := Tryz.sizeOf206
 v46 := Tryz.zeroValue206
 t51 := Tryz.underlying204
 a51 := Tryz.isAgg204
 z51 := Tryz.sizeOf204
 v51 := Tryz.zeroValue204
 t53 := Tryz.underlying148
 a53 := Tryz.isAgg148
 z53 := Tryz.sizeOf148
 v53 := Tryz.zeroValue148
 t171 := Tryz.underlying190
 a171 := Tryz.isAgg190
 z171 := Tryz.sizeOf190
 v171 := Tryz.zeroValue190
 t173 := Tryz.underlying193
 a173 := Tryz.isAgg193
 z173 := Tryz.sizeOf193
 v173 := Tryz.zeroValue193
 t212 := Tryz.underlying203
 a212 := Tryz.isAgg203
 z212 := Tryz.sizeOf203
 v212 := Tryz.zeroValue203
 t213 := Tryz.underlying205
 a213 := Tryz.isAgg205
 z213 := Tryz.sizeOf205
 t232 := Tryz.underlying212
 a232 := Tryz.isAgg212
 z232 := Tryz.sizeOf212
 v232 := Tryz.zeroValue212
 t233 := Tryz.underlying213
 a233 := Tryz.isAgg213
 z233 := Tryz.sizeOf213
 v233 := Tryz.zeroValue213
 g17 := by kernel_rfl
 g18 := by kernel_rfl
 g19 := by kernel_rfl
 i0 := by kernel_rfl
 i2 := by kernel_rfl
 i3 := by kernel_rfl
 i4 := by kernel_rfl
 i5 := by kernel_rfl
 i9 := by kernel_rfl
 i20 := by kernel_rfl
 i37 := by kernel_rfl
 i46 := by kernel_rfl
 i51 := by kernel_rfl
 i53 := by kernel_rfl
 i171 := by kernel_rfl
 i173 := by kernel_rfl
 i212 := by kernel_rfl
 i232 := by kernel_rfl
 i233 := by kernel_rfl
 m17 := by kernel_rfl
 m18 := by kernel_rfl
 m19 := by kernel_rfl }
open Go.RowKit Go.Sort Go.Lib in
theorem Tryz.strconv_Itoa (n : Int) (h0 : -9223372036854775808 <= n) (h1 : n <= 9223372036854775807) (w : World) (htab : Lib.TabIs Tryz.prog w "internal/strconv.uint64pow10" .u64 Lib.pow10Tab) :
  Calls Tryz.prog 42 #[.int .i64 n] w fun e w' => e = .returned (.string ⟨(Lib.itoa n).toArray⟩) /\ ∃ k os, w' = grow (w.drewN k) os := Any.strconv_Itoa Tryz.laysM171 n h0 h1 w htab
def Tryz.lays219_ren : Go.Shelf.Ren := ⟨fun | 219 => 191 | 217 => 197 | 225 => 198 | 224 => 199 | 267 => 200 | 266 => 203 | 314 => 204 | n => n, fun | 9 => 9 | 3 => 3 | 4 => 4 | 5 => 5 | 46 => 206 | 146 => 214 | 51 => 204 | n => n, fun | 1 => 0 | n => n⟩
theorem Tryz.lays219 : Go.Proofs.Lays.n219 Tryz.prog Tryz.lays219_ren := {
 mixed := by kernel_rfl
 f217 := Tryz.func197.trans (congrArg some (by kernel_rfl))
 f219 := Tryz.func191.trans (congrArg some (by kernel_rfl))
 f224 := Tryz.func199.trans (congrArg some (by kernel_rfl))
 f225 := Tryz.func198.trans (congrArg some (by kernel_rfl))
 f266 := Tryz.func203.trans (congrArg some (by kernel_rfl))
 f267 := Tryz.func200.trans (congrArg some (by kernel_rfl))
 f314 := Tryz.func204.trans (congrArg some (by kernel_rfl))
 t3 := Tryz.underlying3
 a3 := Tryz.isAgg3
 z3 := Tryz.sizeOf3
 v3 := Tryz.zeroValue3
 t4 := Tryz.underlying4
 a4 := Tryz.isAgg4
 z4 := Tryz.sizeOf4
 v4 := Tryz.zeroValue4
 t5 := Tryz.underlying5
 a5 := Tryz.isAgg5
 z5 := Tryz.sizeOf5
 v5 := Tryz.zeroValue5
 t9 := Tryz.underlying9
 a9 := Tryz.isAgg9
 z9 := Tryz.sizeOf9
 v9 := Tryz.zeroValue9
 t46 := Tryz.underlying206
 a46 := Tryz.isAgg206
 z46 := Tryz.sizeOf206
 v46 := Tryz.zeroValue206
 t51 := Tryz.underlying204
 a51 := Tryz.isAgg204
 z51 := Tryz.sizeOf204
 v51 := Tryz.zeroValue204
 t146 := Tryz.underlying214
 a146 := Tryz.isAgg214
 z146 := Tryz.sizeOf214
 v146 := Tryz.zeroValue214
 g1 := by kernel_rfl }
open Go.RowKit Go.Lib in
theorem Tryz.stringslite_Index_one (s : ByteArray) (c : UInt8) (w : World) :
  Calls Tryz.prog 191 #[.string s, .string ⟨#[c]⟩] w fun e w' => e = .returned (.int .i64 (Lib.indexByte s.data.toList c)) /\ w' = w := Any.stringslite_Index_one Tryz.lays219 s c w
def Tryz.lays99_ren : Go.Shelf.Ren := ⟨fun | 99 => 178 | 206 => 193 | n => n, fun | 9 => 9 | 4 => 4 | 3 => 3 | n => n, fun | n => n⟩
theorem Tryz.lays99 : Go.Proofs.Lays.n99 Tryz.prog Tryz.lays99_ren := {
 mixed := by kernel_rfl
 f99 := Tryz.func178.trans (congrArg some (by kernel_rfl))
 f206 := Tryz.func193.trans (congrArg some (by kernel_rfl))
 t3 := Tryz.underlying3
 a3 := Tryz.isAgg3
 z3 := Tryz.sizeOf3
 v3 := Tryz.zeroValue3
 t4 := Tryz.underlying4
 a4 := Tryz.isAgg4
 z4 := Tryz.sizeOf4
 v4 := Tryz.zeroValue4
 t9 := Tryz.underlying9
 a9 := Tryz.isAgg9
 z9 := Tryz.sizeOf9
 v9 := Tryz.zeroValue9 }
open Go.RowKit Go.Lib in
theorem Tryz.strings_HasPrefix (s p : ByteArray) (w : World) :
  Calls Tryz.prog 178 #[.string s, .string p] w fun e w' => e = .returned (.bool (Lib.hasPrefix s.data.toList p.data.toList)) /\ w' = w := Any.strings_HasPrefix Tryz.lays99 s p w
end Go.Proofs
namespace Go.Proofs.YthmlhheceihcbaaGreatDoor
open Go.RowKit Tryz
/-- Six cells of a block. -/
@[reducible] def G6 (W : World) (g : Nat) (v0 v1 v2 v3 v4 v5 : Value) : Prop := W.cell? ⟨g, 0, none⟩ = some v0 /\ W.cell? ⟨g, 1, none⟩ = some v1 /\ W.cell? ⟨g, 2, none⟩ = some v2 /\ W.cell? ⟨g, 3, none⟩ = some v3 /\ W.cell? ⟨g, 4, none⟩ = some v4 /\ W.cell? ⟨g, 5, none⟩ = some v5
theorem Hj {p : Prop} (h : p) : Hid p := Lib.hid h
theorem dF {p : Prop} [Decidable p] (h : ¬ p) : decide p = false := decide_eq_false h
theorem dT {p : Prop} [Decidable p] (h : p) : decide p = true := decide_eq_true h
end Go.Proofs.YthmlhheceihcbaaGreatDoor
namespace Go.Proofs.YthmlhheceihcbaaGreatDoor.Frac
set_option maxHeartbeats 16000000
def gOf (s d : Int) : Nat := Nat.gcd s.natAbs d.natAbs
def rN (s d : Int) : Int := s / (gOf s d : Int)
def rD (s d : Int) : Int := d / (gOf s d : Int)
def nOk (s d : Int) : Bool := decide ((rN s d).natAbs <= 1000000000000000) && decide (rD s d <= 1000000000)
def nN (s d : Int) : Int := if nOk s d = true then rN s d else 0
def nD (s d : Int) : Int := if nOk s d = true then rD s d else 0
def nE (s d : Int) : Int := if nOk s d = true then 0 else 2
theorem gOf_pos (s d : Int) (h : 0 < d) : 0 < gOf s d := Nat.gcd_pos_of_pos_right _ (by omega)
theorem rN_mul (s d : Int) : s = (gOf s d : Int) * rN s d := by
 have h : (gOf s d : Int) ∣ s := Int.ofNat_dvd_left.2 (Nat.gcd_dvd_left _ _);exact (Int.mul_ediv_cancel' h).symm
theorem rD_mul (s d : Int) : d = (gOf s d : Int) * rD s d := by
 have h : (gOf s d : Int) ∣ d := Int.ofNat_dvd_left.2 (Nat.gcd_dvd_right _ _);exact (Int.mul_ediv_cancel' h).symm
theorem rD_pos (s d : Int) (h : 0 < d) : 0 < rD s d := by
 have e := rD_mul s d;have g := gOf_pos s d h;by_cases c : 0 < rD s d
 ·exact c
 ·have : (gOf s d : Int) * rD s d <= 0 := Int.mul_nonpos_of_nonneg_of_nonpos (by omega) (by omega);omega
theorem r_coprime (s d : Int) (h : 0 < d) : Nat.gcd (rN s d).natAbs (rD s d).natAbs = 1 := by
 have g := gOf_pos s d h
 have e1 : s.natAbs = gOf s d * (rN s d).natAbs := by
  have := congrArg Int.natAbs (rN_mul s d)
  rwa [Int.natAbs_mul, Int.natAbs_natCast] at this
 have e2 : d.natAbs = gOf s d * (rD s d).natAbs := by
  have := congrArg Int.natAbs (rD_mul s d)
  rwa [Int.natAbs_mul, Int.natAbs_natCast] at this
 have e3 : gOf s d = gOf s d * Nat.gcd (rN s d).natAbs (rD s d).natAbs := by
  rw [<- Nat.gcd_mul_left, <- e1, <- e2]; rfl
 have := Nat.eq_of_mul_eq_mul_left g (show gOf s d * Nat.gcd (rN s d).natAbs (rD s d).natAbs = gOf s d * 1 by omega);exact this
theorem low_unique {a b c d : Int} (hb : 0 < b) (hd : 0 < d) (h1 : Nat.gcd a.natAbs b.natAbs = 1) (h2 : Nat.gcd c.natAbs d.natAbs = 1) (h : a * d = c * b) : a = c /\ b = d := by
 have hn : a.natAbs * d.natAbs = c.natAbs * b.natAbs := by
  rw [<- Int.natAbs_mul, <- Int.natAbs_mul, h]
 have k1 : b.natAbs ∣ d.natAbs := by
  have : b.natAbs ∣ a.natAbs * d.natAbs := by rw [hn]; exact Nat.dvd_mul_left _ _
  exact Nat.Coprime.dvd_of_dvd_mul_left (show Nat.Coprime b.natAbs a.natAbs by rw [Nat.coprime_comm]; exact h1) this
 have k2 : d.natAbs ∣ b.natAbs := by
  have : d.natAbs ∣ c.natAbs * b.natAbs := by rw [<- hn]; exact Nat.dvd_mul_left _ _
  exact Nat.Coprime.dvd_of_dvd_mul_left (show Nat.Coprime d.natAbs c.natAbs by rw [Nat.coprime_comm]; exact h2) this
 have e : b.natAbs = d.natAbs := Nat.dvd_antisymm k1 k2;have e' : b = d := by omega
 refine ⟨?_, e'⟩;rw [e'] at h;exact Int.eq_of_mul_eq_mul_right (by omega) h
theorem r_value {s d s' d' : Int} (hd : 0 < d) (hd' : 0 < d') (h : s * d' = s' * d) : rN s d = rN s' d' /\ rD s d = rD s' d' := by
 refine low_unique (rD_pos s d hd) (rD_pos s' d' hd') (r_coprime s d hd) (r_coprime s' d' hd') ?_;have g1 := gOf_pos s d hd;have g2 := gOf_pos s' d' hd';have a1 := rN_mul s d;have a2 := rD_mul s d;have a3 := rN_mul s' d';have a4 := rD_mul s' d';generalize rN s d = x at *;generalize rD s d = y at *;generalize rN s' d' = z at *;generalize rD s' d' = t at *
 have e : (x * t) * ((gOf s d : Int) * (gOf s' d' : Int)) = (z * y) * ((gOf s d : Int) * (gOf s' d' : Int)) := by
  generalize (gOf s d : Int) = p at *;generalize (gOf s' d' : Int) = q at *;subst a1 a2 a3 a4
  grind
 refine Int.eq_of_mul_eq_mul_right ?_ e;have : (0 : Int) < (gOf s d : Int) * (gOf s' d' : Int) := Int.mul_pos (by omega) (by omega);omega
theorem n_value {s d s' d' : Int} (hd : 0 < d) (hd' : 0 < d') (h : s * d' = s' * d) : nN s d = nN s' d' /\ nD s d = nD s' d' /\ nE s d = nE s' d' := by
 obtain ⟨e1, e2⟩ := r_value hd hd' h;unfold nN nD nE nOk;rw [e1, e2]; exact ⟨rfl, rfl, rfl⟩
def validB (n d : Int) : Bool := decide (1 <= d /\ d <= 1000000000 /\ -1000000000000000 <= n /\ n <= 1000000000000000) && decide (Nat.gcd n.natAbs d.natAbs = 1)
theorem validB_iff (n d : Int) : validB n d = true ↔ ((1 <= d /\ d <= 1000000000 /\ -1000000000000000 <= n /\ n <= 1000000000000000) /\ Nat.gcd n.natAbs d.natAbs = 1) := by
 unfold validB; simp
theorem n_cases (s d : Int) (hd : 0 < d) : (nE s d = 2 /\ nN s d = 0 /\ nD s d = 0 /\ nOk s d = false) \/ (nE s d = 0 /\ nOk s d = true /\ validB (nN s d) (nD s d) = true /\ nN s d * d = s * nD s d) := by
 unfold nN nD nE
 cases h : nOk s d
 ·exact .inl ⟨by simp, by simp, by simp, rfl⟩
 ·right
  have hp := rD_pos s d hd;have hc := r_coprime s d hd;have a1 := rN_mul s d;have a2 := rD_mul s d;simp only [nOk, Bool.and_eq_true, decide_eq_true_eq] at h;refine ⟨by simp, rfl, ?_, ?_⟩
  ·simp only [if_true];exact (validB_iff _ _).2 ⟨by omega, hc⟩
  ·simp only [if_true];generalize rN s d = x at *;generalize rD s d = y at *;generalize (gOf s d : Int) = p at *;subst a1 a2
   grind
def addB (a b c d : Int) : Bool := validB a b && validB c d
def addN (a b c d : Int) : Int := if addB a b c d = true then nN (a * d + c * b) (b * d) else 0
def addD (a b c d : Int) : Int := if addB a b c d = true then nD (a * d + c * b) (b * d) else 0
def addE (a b c d : Int) : Int := if addB a b c d = true then nE (a * d + c * b) (b * d) else 1
def mulN (a b c d : Int) : Int := if addB a b c d = true then nN (a * c) (b * d) else 0
def mulD (a b c d : Int) : Int := if addB a b c d = true then nD (a * c) (b * d) else 0
def mulE (a b c d : Int) : Int := if addB a b c d = true then nE (a * c) (b * d) else 1
def mkS (n d : Int) : Int := if d < 0 then -n else n
def mkN (n d : Int) : Int := if d = 0 then 0 else nN (mkS n d) (d.natAbs : Int)
def mkD (n d : Int) : Int := if d = 0 then 0 else nD (mkS n d) (d.natAbs : Int)
def mkE (n d : Int) : Int := if d = 0 then 3 else nE (mkS n d) (d.natAbs : Int)
def flN (n d : Int) : Int := if validB n d = true then n / d else 0
def flE (n d : Int) : Int := if validB n d = true then 0 else 1
theorem addB_comm (a b c d : Int) : addB a b c d = addB c d a b := by unfold addB; rw [Bool.and_comm]
theorem add_comm (a b c d : Int) : addN a b c d = addN c d a b /\ addD a b c d = addD c d a b /\ addE a b c d = addE c d a b := by
 unfold addN addD addE;rw [addB_comm, show a * d + c * b = c * b + a * d by omega, Int.mul_comm b d]; exact ⟨rfl, rfl, rfl⟩
theorem mul_comm (a b c d : Int) : mulN a b c d = mulN c d a b /\ mulD a b c d = mulD c d a b /\ mulE a b c d = mulE c d a b := by
 unfold mulN mulD mulE;rw [addB_comm, Int.mul_comm a c, Int.mul_comm b d]; exact ⟨rfl, rfl, rfl⟩
end Go.Proofs.YthmlhheceihcbaaGreatDoor.Frac
namespace Go.Proofs.YthmlhheceihcbaaGreatDoor
set_option maxHeartbeats 16000000
open Go.RowKit Tryz
def Rel (w w' : World) : Prop := Below w.heap.size w w'
theorem Rel.refl (w : World) : Rel w w := Below.refl _ _
theorem Rel.trans {a b c : World} (h : Rel a b) (k : Rel b c) : Rel a c := Below.trans h (Below.mono k h.size)
theorem Rel.draw (w : World) : Rel w { w with drawn := w.drawn + 1 } := ⟨rfl, rfl, rfl, Nat.le_refl _, fun _ _ => rfl⟩
theorem Rel.cell {w w' : World} (h : Rel w w') {a : Addr} {v : Value} (hc : w.cell? a = some v) : w'.cell? a = some v := by
 rw [Below.cell h (World.block_lt_of_cell? w a hc)]; exact hc
theorem Rel.frozen {w w' : World} (h : Rel w w') {a : Addr} (ha : a.block < w.heap.size) (hc : w.frozen? a = false) : w'.frozen? a = false := by
 rw [Below.frozen h ha]; exact hc
theorem Rel.alloc {a b : World} (h : Rel a b) (o : Obj) : Rel a (b.alloc o) := Below.alloc h h.size o
theorem Rel.drew {a b : World} (h : Rel a b) : Rel a b.drew := Below.drew h
theorem Rel.setCell {a b : World} (h : Rel a b) {p : Addr} (hp : a.heap.size <= p.block) (u : Value) : Rel a (b.setCell p u) := Below.setCell h hp u
theorem Rel.lt {a b : World} (h : Rel a b) {n : Nat} (hn : n < a.heap.size) : n < b.heap.size := Nat.lt_of_lt_of_le hn h.size
section
variable {P : Program} {ops : Array Oper} {Q : Exit -> Act -> World -> Prop} {md : Region.Mode} {S : Array Bool -> World -> Prop} {T : Nat -> Bool}
def dep (md : Region.Mode) (ops : Array Oper) : Nat -> Nat -> Nat -> Bool
 | 0, _, _ => false
 | f + 1, j, i =>
  match ops[j]? with
  | some oj => oj.after.any fun e => Region.binds md e && (e.on == i || dep md ops f e.on i)
  | none => false
def Closed (md : Region.Mode) (ops : Array Oper) (L : Array Bool) : Prop :=
 ∀ (j : Nat) (oj : Oper), ops[j]? = some oj -> L.getD j false = true -> ∀ e ∈ oj.after, Region.binds md e = true -> L.getD e.on false = true
theorem Closed.dep {L : Array Bool} (h : Closed md ops L) : ∀ (f j i : Nat), L.getD j false = true -> dep md ops f j i = true -> L.getD i false = true := by
 intro f
 induction f with
 | zero => intro j i _ hd; cases hd
 | succ f ih =>
  intro j i hj hd;unfold Go.Proofs.YthmlhheceihcbaaGreatDoor.dep at hd
  split at hd
  ·rename_i oj ho;obtain ⟨e, he, hb⟩ := Array.any_eq_true'.1 hd;simp only [Bool.and_eq_true, Bool.or_eq_true, beq_iff_eq] at hb;have h1 := h j oj ho hj e he hb.1
   rcases hb.2 with h2 | h2
   ·rw [<- h2]; exact h1
   ·exact ih e.on i h1 h2
  ·cases hd
theorem getD_set_self {L : Array Bool} {i : Nat} (h : L.getD i true = false) : (L.setIfInBounds i true).getD i false = true := by
 rcases Nat.lt_or_ge i L.size with h' | h'
 ·simp [h']
 ·simp [Array.getElem?_eq_none h'] at h
theorem Closed.set {L : Array Bool} (h : Closed md ops L) {i : Nat} (hi : i ∈ Region.ready md ops L) : Closed md ops (L.setIfInBounds i true) := by
 obtain ⟨hun, oi, hoi, hall⟩ := mem_ready.1 hi;intro j oj hj hl e he hb;by_cases hij : i = j
 ·subst hij;have : oj = oi := Option.some.inj (hj.symm.trans hoi);subst this;exact getD_set_true (hall e he hb)
 ·rw [getD_set_ne false hij] at hl;exact getD_set_true (h j oj hj hl e he hb)
def calmUpon (P : Program) (w : World) (v : Value) : Result Next -> Prop
 | .ok (.value u) w' => u = v /\ Rel w w'
 | .ok .skip w' => v = undef /\ Rel w w'
 | .ok (.enter f args) w' => w' = w /\ Calls P f args w (fun e w'' => e = .returned v /\ Rel w w'')
 | _ => False
def calmAt (P : Program) (o : Oper) (a : Act) (w : World) (v : Value) : Prop := calmUpon P w v ((execOp a.eval o).run P w)
def Ahead (md : Region.Mode) (ops : Array Oper) (i : Nat) (M : Array Bool) : Prop := ∀ k, dep md ops ops.size k i = true -> M.getD k false = false
def YieldsC (P : Program) (md : Region.Mode) (ops : Array Oper) (S : Array Bool -> World -> Prop) (i : Nat) (o : Oper) (v : Value) (a : Act) : Prop :=
 (Region.wanted o (yielded ops a.tmps) = true /\ ∀ M w, Ahead md ops i M -> S M w -> calmAt P o a w v) \/
 (Region.wanted o (yielded ops a.tmps) = false /\ v = undef)
theorem YieldsC.wpOp {i : Nat} {o : Oper} {v : Value} {a : Act} (hi : ops[i]? = some o) (hy : YieldsC P md ops S i o v a)
  {K : Act -> World -> Prop} {w : World} {M : Array Bool} (hM : Ahead md ops i M) (hS : S M w) (h : ∀ w', Rel w w' -> K (a.put o.dst v) w') : wpOp P ops Q i K a w := by
 unfold Go.wpOp;simp only [hi]
 rcases hy with ⟨hw, hv⟩ | ⟨hw, rfl⟩
 ·simp only [hw, if_true];refine .inl ?_;have h3 := hv M w hM hS;unfold calmAt at h3;unfold Oper.wp;generalize (execOp a.eval o).run P w = r at *
  cases r with
  | ok n w' =>
   cases n <;> simp only [calmUpon] at h3 <;> simp only [Oper.upon]
   case value u => obtain ⟨e1, e2⟩ := h3; rw [e1]; exact h _ e2
   case skip => obtain ⟨e1, e2⟩ := h3; rw [<- e1]; exact h _ e2
   case enter f args =>
    obtain ⟨e1, hc⟩ := h3;rw [e1]
    exact hc.mono fun e w'' ⟨he, hw''⟩ => by subst he; exact h _ hw''
  | halt x w' => simp only [calmUpon] at h3
 ·simp only [hw, Bool.false_eq_true, if_false]; exact h _ (Rel.refl _)
theorem YieldsC.of_same {i : Nat} {o : Oper} {v : Value} {a a' : Act} (hy : YieldsC P md ops S i o v a) (he : execOp a'.eval o = execOp a.eval o)
  (hw : Region.wanted o (yielded ops a'.tmps) = Region.wanted o (yielded ops a.tmps)) : YieldsC P md ops S i o v a' := by
 unfold YieldsC calmAt at *;rw [he, hw];exact hy
theorem wpOp_putC {i j : Nat} {oi oj : Oper} {v : Value} (hj : ops[j]? = some oj) (hap : oi.apart ops oj = true)
  (hsi : ∀ cs b, oi.op ≠ .select cs b) (hsj : ∀ cs b, oj.op ≠ .select cs b)
  (hQ : ∀ c a w, Q (.panic c) (a.put oi.dst v) w -> Q (.panic c) a w) {K : Act -> World -> Prop} {a : Act} {w : World}
  (hy : YieldsC P md ops S i oi v a) (h : wpOp P ops Q j K (a.put oi.dst v) w) :
  wpOp P ops Q j (fun a' w' => YieldsC P md ops S i oi v a' /\ K (a'.put oi.dst v) w') a w := by
 obtain ⟨h1, h2, h3⟩ := Oper.apart_spec hap
 have keep : ∀ (a : Act), YieldsC P md ops S i oi v a -> ∀ u, YieldsC P md ops S i oi v (a.put oj.dst u) := fun a hy u =>
  hy.of_same (execOp_put oi hsi a oj.dst u h3) (wanted_put oi a oj.dst u h3)
 have keepD : ∀ d, YieldsC P md ops S i oi v { a with defers := d :: a.defers } := fun d => hy.of_same rfl rfl
 unfold wpOp at *;simp only [hj] at *;rw [wanted_put oj a oi.dst v h1] at h;split
 ·rename_i hw;simp only [hw, if_true] at h
  rcases h with h | ⟨hasks, hlets⟩
  case inr => exact .inr ⟨by unfold Oper.asks at *; rw [execOp_put oj hsj a oi.dst v h1] at hasks; exact hasks, hlets⟩
  refine .inl ?_;unfold Oper.wp at *;rw [execOp_put oj hsj a oi.dst v h1] at h;generalize (execOp a.eval oj).run P w = r at *
  cases r with
  | ok n w' =>
   cases n <;> simp only [Oper.upon] at h |-
   case value u => exact ⟨keep a hy u, by rw [<- Act.put_comm a v u h2]; exact h⟩
   case skip => exact ⟨keep a hy _, by rw [<- Act.put_comm a v undef h2]; exact h⟩
   case defer d =>
    refine ⟨keep _ (keepD d) _, ?_⟩;rw [<- Act.put_comm _ v undef h2, <- Act.put_defers];exact h
   case enter f args =>
    refine Calls.mono h fun e w'' he => ?_
    cases e with
    | returned u => exact ⟨keep a hy u, by rw [<- Act.put_comm a v u h2]; exact he⟩
    | panicked c => exact hQ _ _ _ he
    | outgrown => exact he
   case row row args => exact Rows.mono h fun u w'' he => ⟨keep a hy u, by rw [<- Act.put_comm a v u h2]; exact he⟩
  | halt x w' =>
   cases x <;> simp only [Oper.upon] at h |-
   case panic u => exact hQ _ _ _ h
 ·rename_i hw;simp only [hw] at h;exact ⟨keep a hy _, by rw [<- Act.put_comm a v undef h2]; exact h⟩
def mark (T : Nat -> Bool) (M : Array Bool) (j : Nat) : Array Bool := if T j = true then M.setIfInBounds j true else M
def wpAnyR (P : Program) (md : Region.Mode) (ops : Array Oper) (Q : Exit -> Act -> World -> Prop) (S : Array Bool -> World -> Prop) (T : Nat -> Bool) : Nat -> Array Bool -> Array Bool -> Act -> World -> Prop
 | 0, _, L, a, w => Region.ready md ops L = [] /\ ∀ w', Rel w w' -> Q .normal a w'
 | f + 1, M, L, a, w =>
  (Region.ready md ops L = [] -> ∀ w', Rel w w' -> Q .normal a w') /\
  ∀ i ∈ Region.ready md ops L, ∀ w', Rel w w' -> wpOp P ops Q i (fun a' w'' => S (mark T M i) w'' /\ wpAnyR P md ops Q S T f (mark T M i) (L.setIfInBounds i true) a' w'') a w'
theorem wpAny_of_R : ∀ (f : Nat) (M L : Array Bool) (a : Act) (w : World), wpAnyR P md ops Q S T f M L a w -> wpAny P md ops Q f L a w
 | 0, _, _, _, _, h => ⟨h.1, h.2 _ (Rel.refl _)⟩
 | f + 1, _, _, _, _, h => ⟨fun h0 => h.1 h0 _ (Rel.refl _), fun i hi => wpOp_mono (fun a' w' h' => wpAny_of_R f _ _ a' w' h'.2) (h.2 i hi _ (Rel.refl _))⟩
theorem wpAnyR_rel : ∀ (f : Nat) {M L : Array Bool} {a : Act} {w w' : World}, wpAnyR P md ops Q S T f M L a w -> Rel w w' -> wpAnyR P md ops Q S T f M L a w'
 | 0, _, _, _, _, _, h, hr => ⟨h.1, fun w'' hw => h.2 w'' (hr.trans hw)⟩
 | _ + 1, _, _, _, _, _, h, hr => ⟨fun h0 w'' hw => h.1 h0 w'' (hr.trans hw), fun i hi w'' hw => h.2 i hi w'' (hr.trans hw)⟩
theorem mark_sub {M L : Array Bool} {j : Nat} (hj : L.getD j true = false) (h : ∀ k, M.getD k false = true -> L.getD k false = true) : ∀ k, (mark T M j).getD k false = true -> (L.setIfInBounds j true).getD k false = true := by
 intro k hk;by_cases e : j = k
 ·subst e; exact getD_set_self hj
 ·unfold mark at hk
  split at hk
  ·rw [getD_set_ne false e] at hk;exact getD_set_true (h k hk)
  ·exact getD_set_true (h k hk)
theorem ahead_of {M L : Array Bool} {i : Nat} (hc : Closed md ops L) (hs : ∀ k, M.getD k false = true -> L.getD k false = true) (hi : L.getD i true = false) : Ahead md ops i M := by
 intro k hd
 cases hk : M.getD k false with
 | false => rfl
 | true =>
  have := hc.dep _ k i (hs k hk) hd;rw [getD_both hi] at this;cases this
theorem wpAnyR_first {i : Nat} {oi : Oper} {v : Value} (hi : ops[i]? = some oi) (hT : T i = false) (hsel : ∀ (j : Nat) (o : Oper) cs b, ops[j]? = some o -> o.op ≠ .select cs b)
  (hQ : ∀ c a w, Q (.panic c) (a.put oi.dst v) w -> Q (.panic c) a w) (hst : ∀ M w w', S M w -> Rel w w' -> S M w') :
  ∀ (f : Nat) (M L : Array Bool) (a : Act) (w : World), Closed md ops L -> (∀ k, M.getD k false = true -> L.getD k false = true) ->
   (∀ j oj, ops[j]? = some oj -> j ≠ i -> L.getD j true = false -> (∀ e ∈ oj.after, Region.binds md e = true -> e.on ≠ i) -> oi.apart ops oj = true) ->
   i ∈ Region.ready md ops L -> YieldsC P md ops S i oi v a -> S M w ->
   wpAnyR P md ops Q S T f M (L.setIfInBounds i true) (a.put oi.dst v) w -> wpAnyR P md ops Q S T (f + 1) M L a w := by
 have hmark : ∀ M, mark T M i = M := fun M => by unfold mark; rw [hT]; rfl
 intro f
 induction f with
 | zero =>
  intro M L a w hcl hsub _ hr hy hS H;refine ⟨fun h => (by rw [h] at hr; cases hr), fun j hj w1 hw1 => ?_⟩;by_cases hji : j = i
  ·subst hji;refine hy.wpOp hi (ahead_of hcl hsub (mem_ready.1 hr).1) (hst _ _ _ hS hw1) fun w2 hw2 => ?_
   rw [hmark];exact ⟨hst _ _ _ hS (hw1.trans hw2), wpAnyR_rel _ H (hw1.trans hw2)⟩
  ·have := ready_mono hj hji;rw [H.1] at this
   cases this
 | succ f ih =>
  intro M L a w hcl hsub hfree hr hy hS H;refine ⟨fun h => (by rw [h] at hr; cases hr), fun j hj w1 hw1 => ?_⟩;by_cases hji : j = i
  ·subst hji;refine hy.wpOp hi (ahead_of hcl hsub (mem_ready.1 hr).1) (hst _ _ _ hS hw1) fun w2 hw2 => ?_
   rw [hmark];exact ⟨hst _ _ _ hS (hw1.trans hw2), wpAnyR_rel _ H (hw1.trans hw2)⟩
  ·have h1 := H.2 j (ready_mono hj hji) w1 hw1;obtain ⟨hjun, oj, hoj, hall⟩ := mem_ready.1 hj
   have hnot : ∀ e ∈ oj.after, Region.binds md e = true -> e.on ≠ i := fun e he hb heq => by
    have h1 := hall e he hb;have h0 := (mem_ready.1 hr).1;rw [heq, getD_both h0] at h1;cases h1
   have h2 := wpOp_putC hoj (hfree j oj hoj hji hjun hnot) (fun cs b => hsel i oi cs b hi) (fun cs b => hsel j oj cs b hoj) hQ hy h1
   have hfree' : ∀ k ok, ops[k]? = some ok -> k ≠ i -> (L.setIfInBounds j true).getD k true = false ->
     (∀ e ∈ ok.after, Region.binds md e = true -> e.on ≠ i) -> oi.apart ops ok = true := fun k ok hk hki hun hno => by
    refine hfree k ok hk hki ?_ hno;by_cases hjk : j = k
    ·subst hjk; exact hjun
    ·rw [getD_set_ne true hjk] at hun; exact hun
   refine wpOp_mono (fun a' w' h3 => ⟨h3.2.1, ih _ (L.setIfInBounds j true) a' w' (hcl.set hj) (mark_sub hjun hsub) hfree' (ready_mono hr (Ne.symm hji)) h3.1 h3.2.1 ?_⟩) h2;rw [Array.setIfInBounds_comm _ _ hji];exact h3.2.2
def wpCalm (P : Program) (md : Region.Mode) (ops : Array Oper) (S : Array Bool -> World -> Prop) (F : Act -> Prop) : List Nat -> Act -> Prop
 | [], a => F a
 | i :: cs, a => ∃ o, ops[i]? = some o /\
   if Region.wanted o (yielded ops a.tmps) then ∃ v, (∀ M w, Ahead md ops i M -> S M w -> calmAt P o a w v) /\ wpCalm P md ops S F cs (a.put o.dst v)
   else wpCalm P md ops S F cs (a.put o.dst undef)
theorem wpCalm_nil {F : Act -> Prop} {a : Act} (h : F a) : wpCalm P md ops S F [] a := h
theorem wpCalm_step {F : Act -> Prop} {i : Nat} {cs : List Nat} {a : Act} {o : Oper} (ho : ops[i]? = some o) {v : Value}
  (hw : Region.wanted o (yielded ops a.tmps) = true) (hv : ∀ M w, Ahead md ops i M -> S M w -> calmAt P o a w v) (h : wpCalm P md ops S F cs (a.put o.dst v)) : wpCalm P md ops S F (i :: cs) a :=
 ⟨o, ho, by rw [if_pos hw]; exact ⟨v, hv, h⟩⟩
theorem wpCalm_skip {F : Act -> Prop} {i : Nat} {cs : List Nat} {a : Act} {o : Oper} (ho : ops[i]? = some o)
  (hw : Region.wanted o (yielded ops a.tmps) = false) (h : wpCalm P md ops S F cs (a.put o.dst undef)) : wpCalm P md ops S F (i :: cs) a :=
 ⟨o, ho, by rw [if_neg (by rw [hw]; exact Bool.false_ne_true)]; exact h⟩
def nthO : List Oper -> Nat -> Option Oper
 | [], _ => none
 | o :: _, 0 => some o
 | _ :: l, n + 1 => nthO l n
theorem nthO_eq : ∀ (l : List Oper) (i : Nat), nthO l i = l[i]?
 | [], _ => rfl
 | _ :: _, 0 => rfl
 | _ :: l, n + 1 => by rw [List.getElem?_cons_succ]; exact nthO_eq l n
theorem nthO_ops {i : Nat} {o : Oper} (h : nthO ops.toList i = some o) : ops[i]? = some o := by
 rw [nthO_eq] at h; simpa using h
theorem wpCalm_go {F : Act -> Prop} {i : Nat} {cs : List Nat} {a : Act} {o : Oper} (ho : nthO ops.toList i = some o) (hw : Region.wanted o (yielded ops a.tmps) = true)
  (h : ∀ K : Act -> Prop, (∀ a, wpCalm P md ops S F cs a -> K a) -> ∃ v, (∀ M w, Ahead md ops i M -> S M w -> calmAt P o a w v) /\ K (a.put o.dst v)) : wpCalm P md ops S F (i :: cs) a := by
 obtain ⟨v, hv, hk⟩ := h _ (fun _ h => h);exact wpCalm_step (nthO_ops ho) hw hv hk
theorem wpCalm_no {F : Act -> Prop} {i : Nat} {cs : List Nat} {a : Act} {o : Oper} (ho : nthO ops.toList i = some o) (hw : Region.wanted o (yielded ops a.tmps) = false)
  (h : ∀ K : Act -> Prop, (∀ a, wpCalm P md ops S F cs a -> K a) -> K (a.put o.dst undef)) : wpCalm P md ops S F (i :: cs) a :=
 wpCalm_skip (nthO_ops ho) hw (h _ (fun _ h => h))
def calmB (md : Region.Mode) (ops : Array Oper) : List Nat -> Array Bool -> Bool
 | [], _ => true
 | i :: cs, L => (Region.ready md ops L).contains i && Region.free md ops L i && calmB md ops cs (L.setIfInBounds i true)
def takenB : List Nat -> Array Bool -> Array Bool
 | [], L => L
 | i :: cs, L => takenB cs (L.setIfInBounds i true)
theorem wpAnyR_calms (hsel : Region.noSelect ops = true) (hQ : ∀ c a d v w, Q (.panic c) (Act.put a d v) w -> Q (.panic c) a w) (hst : ∀ M w w', S M w -> Rel w w' -> S M w') (f : Nat) (M : Array Bool) (w : World) (hS : S M w) :
  ∀ (cs : List Nat) (L : Array Bool) (a : Act), (∀ i ∈ cs, T i = false) -> Closed md ops L -> (∀ k, M.getD k false = true -> L.getD k false = true) -> calmB md ops cs L = true ->
   wpCalm P md ops S (fun a' => wpAnyR P md ops Q S T f M (takenB cs L) a' w) cs a -> wpAnyR P md ops Q S T (f + cs.length) M L a w := by
 intro cs
 induction cs with
 | nil => intro L a _ _ _ _ h; exact h
 | cons i cs ih =>
  intro L a hTs hcl hsub hB h;simp only [calmB, Bool.and_eq_true] at hB;obtain ⟨⟨hr, hf⟩, hB'⟩ := hB;have hr' : i ∈ Region.ready md ops L := by simpa using hr
  obtain ⟨o, ho, hh⟩ := h;have hsub' : ∀ k, M.getD k false = true -> (L.setIfInBounds i true).getD k false = true := fun k hk => getD_set_true (hsub k hk)
  by_cases hw : Region.wanted o (yielded ops a.tmps) = true
  ·rw [if_pos hw] at hh;obtain ⟨v, hv, hn⟩ := hh
   exact wpAnyR_first ho (hTs i (by simp)) (Region.noSelect_spec hsel) (fun c a w => hQ c a _ _ w) hst (f + cs.length) M L a w hcl hsub (Region.free_spec ho hf) hr' (.inl ⟨hw, hv⟩) hS
    (ih _ _ (fun j hj => hTs j (by simp [hj])) (hcl.set hr') hsub' hB' hn)
  ·rw [if_neg hw] at hh
   exact wpAnyR_first ho (hTs i (by simp)) (Region.noSelect_spec hsel) (fun c a w => hQ c a _ _ w) hst (f + cs.length) M L a w hcl hsub (Region.free_spec ho hf) hr' (.inr ⟨by simpa using hw, rfl⟩) hS
    (ih _ _ (fun j hj => hTs j (by simp [hj])) (hcl.set hr') hsub' hB' hh)
/-! ### Behind the calm operations -/
theorem wpAnyR_done {f : Nat} {M L : Array Bool} {a : Act} {w : World} (hr : Region.ready md ops L = []) (h : ∀ w', Rel w w' -> Q .normal a w') : wpAnyR P md ops Q S T f M L a w := by
 cases f with
 | zero => exact ⟨hr, h⟩
 | succ f => exact ⟨fun _ => h, fun i hi => (by rw [hr] at hi; cases hi)⟩
theorem wpAnyR_end {f : Nat} {M L : Array Bool} {a : Act} {w : World} (hr : Region.ready md ops L = []) (h : ∀ w', Rel w w' -> Q .normal a w') : wpAnyR P md ops (NoPanic Q) S T f M L a w :=
 wpAnyR_done hr h
def AllR (P : Program) (md : Region.Mode) (ops : Array Oper) (Q : Exit -> Act -> World -> Prop) (S : Array Bool -> World -> Prop) (T : Nat -> Bool) (f : Nat) (M L : Array Bool) (a : Act) (w : World) (rs : List Nat) : Prop :=
 ∀ i ∈ rs, ∀ w', Rel w w' -> wpOp P ops Q i (fun a' w'' => S (mark T M i) w'' /\ wpAnyR P md ops Q S T f (mark T M i) (L.setIfInBounds i true) a' w'') a w'
theorem AllR.nil {f : Nat} {M L : Array Bool} {a : Act} {w : World} : AllR P md ops Q S T f M L a w [] := fun _ h => by cases h
def Back (p : Prop) : Prop := p
theorem Back.out {p : Prop} (h : Back p) : p := h
theorem AllR.cons {f : Nat} {M L : Array Bool} {a : Act} {w : World} {i : Nat} {o : Oper} {rs : List Nat} (ho : nthO ops.toList i = some o)
  (h : ∀ w', Rel w w' -> ∀ K' : Act -> World -> Prop, Back (∀ a w, S (mark T M i) w -> wpAnyR P md ops Q S T f (mark T M i) (L.setIfInBounds i true) a w -> K' a w) ->
   if Region.wanted o (yielded ops a.tmps) = true then Oper.wp P o a w' K' Q else K' (a.put o.dst undef) w')
  (hs : AllR P md ops Q S T f M L a w rs) : AllR P md ops Q S T f M L a w (i :: rs) := fun j hj => by
 rcases List.mem_cons.1 hj with rfl | hj
 ·exact fun w' hw' => wpOp_step (nthO_ops ho) (fun K' hK => h w' hw' K' (fun a w hS hW => hK a w ⟨hS, hW⟩))
 ·exact hs j hj
theorem wpAnyR_ready {rs : List Nat} {f : Nat} {M L : Array Bool} {a : Act} {w : World} (hr : Region.ready md ops L = rs) (hne : rs ≠ [])
  (h : AllR P md ops Q S T f M L a w rs) : wpAnyR P md ops Q S T (f + 1) M L a w :=
 ⟨fun h0 => absurd (hr.symm.trans h0) hne, fun i hi => h i (by rw [<- hr]; exact hi)⟩
theorem wp_region_calm {id : Nat} {a : Act} {w : World} (S : Array Bool -> World -> Prop) (T : Nat -> Bool) (cs : List Nat) (ts : Nat) (hm : P.follows .mixedOrders = true)
  (hB : (Region.noSelect ops && decide (cs.length + ts = ops.size) && (cs.all fun i => !T i) && calmB .any ops cs (Array.replicate ops.size false)) = true)
  (hst : ∀ M w w', S M w -> Rel w w' -> S M w') (hS : S (Array.replicate ops.size false) w)
  (h : ∀ w0, Rel w w0 -> wpCalm P .any ops S (fun a' => wpAnyR P .any ops (NoPanic Q) S T ts (Array.replicate ops.size false) (takenB cs (Array.replicate ops.size false)) a' w0) cs a) :
  (Code.region id ops true).wp P Q a w := by
 simp only [Bool.and_eq_true, decide_eq_true_eq, List.all_eq_true, Bool.not_eq_true'] at hB;obtain ⟨⟨⟨h1, h2⟩, h3⟩, h4⟩ := hB;refine wp_region_noPanic (wp_region_any hm (wpAny_of_R (S := S) (T := T) _ (Array.replicate ops.size false) _ _ _ ?_))
 have hcl : Closed .any ops (Array.replicate ops.size false) := fun j oj _ hl => by
  rw [getD_replicate_false] at hl; cases hl
 have := wpAnyR_calms (md := .any) (T := T) h1 (fun _ _ _ _ _ h => (h : False).elim) hst ts (Array.replicate ops.size false) _ (hst _ _ _ hS (Rel.draw w)) cs (Array.replicate ops.size false) a h3 hcl (fun k hk => hk) h4 (h _ (Rel.draw w));rw [show ts + cs.length = ops.size by omega] at this;exact this
end
theorem qR (w : World) : Rel w w := Rel.refl w
theorem qA {a b : World} (h : Rel a b) (o : Obj) : Rel a (b.alloc o) := h.alloc o
theorem qD {a b : World} (h : Rel a b) : Rel a b.drew := h.drew
theorem qT {a b c : World} (h : Rel a b) (k : Rel b c) : Rel a c := h.trans k
theorem qS {a b : World} (h : Rel a b) {p : Addr} (hp : a.heap.size <= p.block) (u : Value) : Rel a (b.setCell p u) := h.setCell hp u
theorem zsa {w : World} {o : Obj} : (w.alloc o).heap.size = w.heap.size + 1 := by simp
theorem zsc {w : World} {a : Addr} {v : Value} : (w.setCell a v).heap.size = w.heap.size := by simp
theorem zsd {w : World} : w.drew.heap.size = w.heap.size := rfl
theorem zla {α : Type} {l : List α} {i : Nat} {a : α} : l.toArray.setIfInBounds i a = (l.set i a).toArray := by simp
theorem zlb {α : Type} {x a : α} {l : List α} : (x :: l).set 0 a = a :: l := rfl
theorem zlc {α : Type} {x a : α} {l : List α} {n : Nat} : (x :: l).set (n + 1) a = x :: l.set n a := rfl
structure Wr (p : Prop) : Prop where
  o : p
theorem gw {g r : Prop} (k : r) (h : Wr r -> g := by intro k; ((try simp only []); (repeat (first | go_values | go_skip | go_guarded | go_step | go_upon | go_in))); exact k.o) : g := h ⟨k⟩
theorem wao (i : Nat) {P : Program} {md : Region.Mode} {ops : Array Oper} {Q : Exit -> Act -> World -> Prop} {S : Array Bool -> World -> Prop} {T : Nat -> Bool} {o : Oper} {f : Nat} {M L : Array Bool} {a : Act} {w : World} (h : ∀ w', Rel w w' -> ∀ K' : Act -> World -> Prop, Back (∀ a w, S (mark T M i) w -> wpAnyR P md ops Q S T f (mark T M i) (L.setIfInBounds i true) a w -> K' a w) -> if Region.wanted o (yielded ops a.tmps) = true then Oper.wp P o a w' K' Q else K' (a.put o.dst undef) w') (hr : Region.ready md ops L = [i] := by kernel_rfl) (ho : nthO ops.toList i = some o := by rfl) : wpAnyR P md ops Q S T (f + 1) M L a w := wpAnyR_ready hr (by simp) (AllR.cons ho h AllR.nil)
theorem ei {α : Sort _} {A B : α -> Prop} {v : α} (a : A v) (b : B v) : ∃ v, A v /\ B v := ⟨v, a, b⟩
theorem wcg {P : Program} {md : Region.Mode} {ops : Array Oper} {S : Array Bool -> World -> Prop} {F : Act -> Prop} {i : Nat} {cs : List Nat} {a : Act} {o : Oper} (h : ∃ v, (∀ M w, Ahead md ops i M -> S M w -> calmAt P o a w v) /\ wpCalm P md ops S F cs (a.put o.dst v)) (ho : nthO ops.toList i = some o := by rfl) (hw : Region.wanted o (yielded ops a.tmps) = true := by kernel_rfl) : wpCalm P md ops S F (i :: cs) a := wpCalm_go ho hw fun _ hK => h.elim fun v h => ⟨v, h.1, hK _ h.2⟩
theorem wcn {P : Program} {md : Region.Mode} {ops : Array Oper} {S : Array Bool -> World -> Prop} {F : Act -> Prop} {i : Nat} {cs : List Nat} {a : Act} {o : Oper} (h : wpCalm P md ops S F cs (a.put o.dst undef)) (ho : nthO ops.toList i = some o := by rfl) (hw : Region.wanted o (yielded ops a.tmps) = false := by kernel_rfl) : wpCalm P md ops S F (i :: cs) a := wpCalm_no ho hw fun _ hK => hK _ h
theorem zn {α : Type} [BEq α] [LawfulBEq α] {a b : α} : (a == b) = false ↔ a ≠ b := beq_eq_false_iff_ne
theorem rx0 {a b : World} (h : Rel a b := by repeat (first | with_reducible (first | exact qR _ | refine qA ?_ _ | refine qD ?_ | refine qT ?_ H0.out) | with_reducible refine qS ?_ (by first | (simp; done) | (simp; omega)) _)) : Rel a b := h
theorem rx10 {a b : World} (h : Rel a b := by repeat (first | with_reducible (first | exact qR _ | refine qA ?_ _ | refine qD ?_ | refine qT ?_ H1.out | refine qT ?_ H0.out) | with_reducible refine qS ?_ (by first | (simp; done) | (simp; omega)) _)) : Rel a b := h
theorem rx210 {a b : World} (h : Rel a b := by repeat (first | with_reducible (first | exact qR _ | refine qA ?_ _ | refine qD ?_ | refine qT ?_ H2.out | refine qT ?_ H1.out | refine qT ?_ H0.out) | with_reducible refine qS ?_ (by first | (simp; done) | (simp; omega)) _)) : Rel a b := h
theorem rx3210 {a b : World} (h : Rel a b := by repeat (first | with_reducible (first | exact qR _ | refine qA ?_ _ | refine qD ?_ | refine qT ?_ H3.out | refine qT ?_ H2.out | refine qT ?_ H1.out | refine qT ?_ H0.out) | with_reducible refine qS ?_ (by first | (simp; done) | (simp; omega)) _)) : Rel a b := h
theorem rx43210 {a b : World} (h : Rel a b := by repeat (first | with_reducible (first | exact qR _ | refine qA ?_ _ | refine qD ?_ | refine qT ?_ H4.out | refine qT ?_ H3.out | refine qT ?_ H2.out | refine qT ?_ H1.out | refine qT ?_ H0.out) | with_reducible refine qS ?_ (by first | (simp; done) | (simp; omega)) _)) : Rel a b := h
theorem rx543210 {a b : World} (h : Rel a b := by repeat (first | with_reducible (first | exact qR _ | refine qA ?_ _ | refine qD ?_ | refine qT ?_ H5.out | refine qT ?_ H4.out | refine qT ?_ H3.out | refine qT ?_ H2.out | refine qT ?_ H1.out | refine qT ?_ H0.out) | with_reducible refine qS ?_ (by first | (simp; done) | (simp; omega)) _)) : Rel a b := h
end Go.Proofs.YthmlhheceihcbaaGreatDoor
namespace Go.Proofs.YthmlhheceihcbaaGreatDoor
set_option maxHeartbeats 16000000
open Go.RowKit Frac Tryz
theorem ret_u {k : IntKind} {a b : Int} (h : a = b) : Ending.returned (.int k a) = .returned (.int k b) := by rw [h]
theorem size_any (x : Int) (w : World) (h0 : -9223372036854775808 <= x) (h1 : x <= 9223372036854775807) :
  Calls prog 180 #[.int .i64 x] w fun e w' => e = .returned (.int .u64 (x.natAbs : Int)) /\ w = w' := by
 by_cases hx : x < 0
 ·go_enter func180, ntmps180;go_wp2;go_ret;refine ⟨ret_u ?_, rfl⟩;simp only [IntKind.wrap_u64]; omega
 ·go_enter func180, ntmps180;go_wp2;go_ret;refine ⟨ret_u ?_, rfl⟩
  first | omega | (simp only [IntKind.wrap_u64]; omega)
theorem rsize_any (x : Int) (w : World) (h0 : -9223372036854775808 <= x) (h1 : x <= 9223372036854775807) :
  Calls prog 103 #[.int .i64 x] w fun e w' => e = .returned (.int .u64 (x.natAbs : Int)) /\ w = w' := by
 by_cases hx : x < 0
 ·go_enter func103, ntmps103;go_wp2;go_ret;refine ⟨ret_u ?_, rfl⟩
  first | omega | (simp only [IntKind.wrap_u64]; omega)
 ·go_enter func103, ntmps103;go_wp2;go_ret;refine ⟨ret_u ?_, rfl⟩
  first | omega | (simp only [IntKind.wrap_u64]; omega)
attribute [local go_sem] calmUpon
theorem gcd_step (x y a b : Nat) (h : Nat.gcd x y = Nat.gcd a b) : Nat.gcd y (x % y) = Nat.gcd a b := by
 rw [<- h, Nat.gcd_comm x y, Nat.gcd_rec y x, Nat.gcd_comm]
theorem nmod_cast (x y : Nat) : Int.tmod (x : Int) (y : Int) = ((x % y : Nat) : Int) := by
 rw [Int.tmod_eq_emod_of_nonneg (by omega)]; rfl
theorem gcd_any (a b : Nat) (w : World) (ha : a < 18446744073709551616) (hb : b < 18446744073709551616) :
    Calls prog 179 #[.int .u64 a, .int .u64 b] w fun e w' => e = .returned (.int .u64 (Nat.gcd a b : Nat)) /\ Rel w w' := by
  go_enter func179, ntmps179;go_wp2
  go_loopw [0, 1] (fun s t wr => ∃ x y : Nat, s = .int .u64 x /\ t = .int .u64 y /\ x < 18446744073709551616 /\ y < 18446744073709551616 /\ Hid (Nat.gcd x y = Nat.gcd a b) /\ Rel w wr) (fun _ t _ => (intOf t).toNat)
  case atStart => exact ⟨a, b, rfl, rfl, ha, hb, rfl, Rel.refl _⟩
  case round =>
    obtain ⟨x, y, rfl, rfl, hx, hy, hg, hbw⟩ := hrel;by_cases hz : y = 0
    · subst hz;go_wp2;go_ret;exact ⟨ret_u (by have := hg.out; rw [Nat.gcd_zero_right] at this; rw [this]), hbw⟩
    · have hz' : ((y : Int) != 0) = true := by simpa using hz
      have hz2 : (0 : Int) < y := by omega
      have hmod := nmod_cast x y;have hlt : x % y < y := Nat.mod_lt _ (by omega);go_wp2;refine wp_region_calm (fun _ _ => True) (fun _ => false) [0, 1, 2, 3, 4, 5] 0 (by kernel_rfl) (by kernel_rfl) (fun _ _ _ _ _ => trivial) trivial (fun w0 h0 => ?_)
      iterate 6
        first
          | (refine wpCalm_no rfl rfl (fun K hK => hK _ ?_); clear hK K)
          | (refine wpCalm_go rfl rfl (fun K hK => ?_)
             apply Exists.intro;refine ⟨fun M w hM hS => ?_, hK _ ?_⟩
             · unfold calmAt;go_simp;exact ⟨rfl, Rel.refl _⟩
             clear hK K)
      refine wpCalm_nil (wpAnyR_end (by kernel_rfl) (fun w1 h1 => ?_));simp only [Act.put, zla, zlb, zlc];go_wp2
      go_roundw
      case rel => exact ⟨y, x % y, rfl, rfl, hy, by omega, gcd_step x y a b hg.out, hbw.trans (h0.trans h1)⟩
      case measure => simp [intOf]; omega
theorem rgcd_any (a b : Nat) (w : World) (ha : a < 18446744073709551616) (hb : b < 18446744073709551616) :
    Calls prog 105 #[.int .u64 a, .int .u64 b] w fun e w' => e = .returned (.int .u64 (Nat.gcd a b : Nat)) /\ Rel w w' := by
  go_enter func105, ntmps105;go_wp2
  go_loopw [0, 1] (fun s t wr => ∃ x y : Nat, s = .int .u64 x /\ t = .int .u64 y /\ x < 18446744073709551616 /\ y < 18446744073709551616 /\ Hid (Nat.gcd x y = Nat.gcd a b) /\ Rel w wr) (fun _ t _ => (intOf t).toNat)
  case atStart => exact ⟨a, b, rfl, rfl, ha, hb, rfl, Rel.refl _⟩
  case round =>
    obtain ⟨x, y, rfl, rfl, hx, hy, hg, hbw⟩ := hrel;by_cases hz : y = 0
    · subst hz;go_wp2;go_ret;exact ⟨ret_u (by have := hg.out; rw [Nat.gcd_zero_right] at this; rw [this]), hbw⟩
    · have hz' : ((y : Int) != 0) = true := by simpa using hz
      have hz2 : (0 : Int) < y := by omega
      have hmod := nmod_cast x y;have hlt : x % y < y := Nat.mod_lt _ (by omega);go_wp2;refine wp_region_calm (fun _ _ => True) (fun _ => false) [0, 1, 2, 3, 4, 5] 0 (by kernel_rfl) (by kernel_rfl) (fun _ _ _ _ _ => trivial) trivial (fun w0 h0 => ?_)
      iterate 6
        first
          | (refine wpCalm_no rfl rfl (fun K hK => hK _ ?_); clear hK K)
          | (refine wpCalm_go rfl rfl (fun K hK => ?_)
             apply Exists.intro;refine ⟨fun M w hM hS => ?_, hK _ ?_⟩
             · unfold calmAt;go_simp;exact ⟨rfl, Rel.refl _⟩
             clear hK K)
      refine wpCalm_nil (wpAnyR_end (by kernel_rfl) (fun w1 h1 => ?_));simp only [Act.put, zla, zlb, zlc];go_wp2
      go_roundw
      case rel => exact ⟨y, x % y, rfl, rfl, hy, by omega, gcd_step x y a b hg.out, hbw.trans (h0.trans h1)⟩
      case measure => simp [intOf]; omega
def hi64 (v : Nat) : Nat := v / 18446744073709551616
def lo64 (v : Nat) : Nat := v % 18446744073709551616
theorem lo64_lt (v : Nat) : lo64 v < 18446744073709551616 := by unfold lo64; omega
theorem hi64_lt {v : Nat} (h : v < 340282366920938463463374607431768211456) : hi64 v < 18446744073709551616 := by unfold hi64; omega
theorem halves (v : Nat) : hi64 v * 18446744073709551616 + lo64 v = v := by unfold hi64 lo64; omega
end Go.Proofs.YthmlhheceihcbaaGreatDoor
namespace Go.Proofs.YthmlhheceihcbaaGreatDoor.Dv
set_option maxHeartbeats 16000000
theorem dig_lt {U Y u1 : Nat} (h : U < Y) (hu : u1 < 4294967296) : (U * 4294967296 + u1) / Y < 4294967296 := by
 rw [Nat.div_lt_iff_lt_mul (by omega)];have : (U + 1) * 4294967296 <= Y * 4294967296 := Nat.mul_le_mul_right _ h;rw [Nat.mul_comm 4294967296 Y]; omega
theorem split_mul' (q Y : Nat) : q * Y = q * (Y / 4294967296) * 4294967296 + q * (Y % 4294967296) := by
 have e : Y = Y / 4294967296 * 4294967296 + Y % 4294967296 := by omega
 calc q * Y = q * (Y / 4294967296 * 4294967296 + Y % 4294967296) := by rw [<- e]
  _ = _ := by rw [Nat.mul_add, Nat.mul_assoc]
theorem est0 {U Y u1 : Nat} (h : U < Y) (hY : 9223372036854775808 <= Y) (hY2 : Y < 18446744073709551616) (hu : u1 < 4294967296) :
  (U * 4294967296 + u1) / Y <= U / (Y / 4294967296) /\ U / (Y / 4294967296) <= 4294967298 /\ U / (Y / 4294967296) * (Y / 4294967296) + U % (Y / 4294967296) = U := by
 have hv : 2147483648 <= Y / 4294967296 := by omega
 refine ⟨?_, ?_, ?_⟩
 ·rw [Nat.le_div_iff_mul_le (by omega)];have h1 := Nat.div_mul_le_self (U * 4294967296 + u1) Y;rw [split_mul'] at h1;omega
 ·have : U / (Y / 4294967296) < 4294967299 := by
   rw [Nat.div_lt_iff_lt_mul (by omega)];omega
  omega
 ·rw [Nat.mul_comm]; exact Nat.div_add_mod _ _
theorem est_yes {U Y u1 q r : Nat} (h : U < Y) (hu : u1 < 4294967296) (hr : q * (Y / 4294967296) + r = U)
  (ht : 4294967296 <= q \/ 4294967296 * r + u1 < q * (Y % 4294967296)) : (U * 4294967296 + u1) / Y < q := by
 rcases ht with ht | ht
 ·have := dig_lt h hu; omega
 ·rw [Nat.div_lt_iff_lt_mul (by omega), split_mul' q Y];omega
theorem est_no {U Y u1 q r : Nat} (h : U < Y) (hr : q * (Y / 4294967296) + r = U) (hQ : (U * 4294967296 + u1) / Y <= q)
  (ht : q * (Y % 4294967296) <= 4294967296 * r + u1) : q = (U * 4294967296 + u1) / Y := by
 have : q <= (U * 4294967296 + u1) / Y := by
  rw [Nat.le_div_iff_mul_le (by omega), split_mul'];omega
 omega
theorem est_break {U Y u1 q r : Nat} (h : U < Y) (hr : q * (Y / 4294967296) + r = U) (hQ : (U * 4294967296 + u1) / Y <= q) (hq : q <= 4294967297)
  (ht : 4294967296 <= r) : q = (U * 4294967296 + u1) / Y := by
 refine est_no h hr hQ ?_;have h1 : q * (Y % 4294967296) <= 4294967297 * 4294967295 := Nat.mul_le_mul hq (by omega);omega
theorem est_step {v q r U : Nat} (hr : q * v + r = U) (hq : 0 < q) : (q - 1) * v + (r + v) = U := by
 obtain ⟨k, rfl⟩ : ∃ k, q = k + 1 := ⟨q - 1, by omega⟩;rw [Nat.add_mul] at hr;simp only [Nat.add_sub_cancel]; omega
theorem est_prod {q v : Nat} (hq : q < 4294967296) (hv : v < 4294967296) : q * v < 18446744073709551616 := by
 have := Nat.mul_le_mul (show q <= 4294967295 by omega) (show v <= 4294967295 by omega);omega
theorem rest_eq {U Y u1 : Nat} (h : U < Y) (hY2 : Y < 18446744073709551616) :
  (((((U : Int) * 4294967296) % 18446744073709551616 + u1) % 18446744073709551616 - (((U * 4294967296 + u1) / Y : Nat) * (Y : Int)) % 18446744073709551616) % 18446744073709551616) = (((U * 4294967296 + u1) % Y : Nat) : Int) := by
 have e := Nat.div_add_mod (U * 4294967296 + u1) Y;have hm := Nat.mod_lt (U * 4294967296 + u1) (show 0 < Y by omega);generalize (U * 4294967296 + u1) / Y = q at *;generalize (U * 4294967296 + u1) % Y = r at *;have e' : ((Y * q + r : Nat) : Int) = ((U * 4294967296 + u1 : Nat) : Int) := by rw [e]
 rw [Int.natCast_add, Int.natCast_mul] at e';rw [Int.mul_comm (q : Int) (Y : Int)];generalize (Y : Int) * (q : Int) = m at *;omega
theorem two_core {N y s Y q R : Nat} (hy : 0 < y) (hY : y * 2 ^ s = Y) (e : N * 2 ^ s = Y * q + R) (m2 : R < Y) : N / y = q /\ N % y = R / 2 ^ s := by
 have hp : 0 < 2 ^ s := Nat.two_pow_pos s;have hYp : 0 < Y := by rw [<- hY]; exact Nat.mul_pos hy hp
 have d : N * 2 ^ s / Y = q := by
  rw [e, Nat.mul_add_div hYp, Nat.div_eq_of_lt m2, Nat.add_zero]
 have m : N * 2 ^ s % Y = R := by
  rw [e, Nat.mul_add_mod, Nat.mod_eq_of_lt m2]
 rw [<- hY, Nat.mul_div_mul_right _ _ hp] at d;rw [<- hY, Nat.mul_mod_mul_right] at m;exact ⟨d, by rw [<- m, Nat.mul_div_cancel _ hp]⟩
theorem two_sum {W1 Y q1 V q2 R u0 : Nat} (e1 : Y * q1 + V = W1) (e2 : Y * q2 + R = V * 4294967296 + u0) : W1 * 4294967296 + u0 = Y * (q1 * 4294967296 + q2) + R := by
 rw [Nat.mul_add, <- Nat.mul_assoc, <- e1]; omega
theorem two_digits {N y s Y U D u1 u0 : Nat} (hy : 0 < y) (hY : y * 2 ^ s = Y) (hN : N * 2 ^ s = U * 18446744073709551616 + D) (hD : D = u1 * 4294967296 + u0) :
  N / y = (U * 4294967296 + u1) / Y * 4294967296 + ((U * 4294967296 + u1) % Y * 4294967296 + u0) / Y /\ N % y = ((U * 4294967296 + u1) % Y * 4294967296 + u0) % Y / 2 ^ s := by
 have hYp : 0 < Y := by rw [<- hY]; exact Nat.mul_pos hy (Nat.two_pow_pos s)
 refine two_core hy hY ?_ (Nat.mod_lt _ hYp);rw [<- two_sum (Nat.div_add_mod (U * 4294967296 + u1) Y) (Nat.div_add_mod ((U * 4294967296 + u1) % Y * 4294967296 + u0) Y), hN, hD];omega
theorem shifted {h l s : Nat} (hs : s <= 63) :
  (h * 18446744073709551616 + l) * 2 ^ s = (h * 2 ^ s + l / 2 ^ (64 - s)) * 18446744073709551616 + l * 2 ^ s % 18446744073709551616 := by
 have hp : 2 ^ (64 - s) * 2 ^ s = 18446744073709551616 := by rw [<- Nat.pow_add, show 64 - s + s = 64 by omega]
 have e := Nat.div_add_mod l (2 ^ (64 - s))
 have e2 : l * 2 ^ s / 18446744073709551616 = l / 2 ^ (64 - s) := by
  rw [<- hp, Nat.mul_div_mul_right _ _ (Nat.two_pow_pos s)]
 have e3 := Nat.div_add_mod (l * 2 ^ s) 18446744073709551616;rw [e2] at e3;rw [Nat.add_mul, Nat.mul_right_comm, Nat.add_mul];omega
theorem or_add {h s x : Nat} (hx : x < 2 ^ s) (hh : h * 2 ^ s + x < 18446744073709551616) : Go.bits .or .u64 ((h * 2 ^ s : Nat) : Int) (x : Int) = ((h * 2 ^ s + x : Nat) : Int) := by
 rw [Go.u64_or_nat _ _ (by omega) (by omega), Go.nat_join s _ _ (Nat.mul_mod_left _ _) hx]
theorem and_mask {a : Nat} (ha : a < 18446744073709551616) : Go.bits .and .u64 (a : Int) 4294967295 = ((a % 4294967296 : Nat) : Int) := by
 have := Go.u64_and_nat a 4294967295 ha (by decide);rw [show (4294967295 : Int) = ((4294967295 : Nat) : Int) from rfl, this]
 congr 1
 exact Nat.and_two_pow_sub_one_eq_mod a 32
end Go.Proofs.YthmlhheceihcbaaGreatDoor.Dv
