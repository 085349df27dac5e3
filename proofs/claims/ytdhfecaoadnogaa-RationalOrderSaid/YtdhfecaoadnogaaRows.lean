/-
  No cell of these rows narrows 'for every input' (looked for: loops, veiled, ifaces, maps, wideKeys, modest, calm, conditions, laid).
  DERIVED. THE GIVEN ROWS OF THIS SEAT. 12 by the template 'for every input the law returns true; each argument reads behind the call as it read before'; 0 by the template 'total and deterministic' (their statements: YtdhfecaoadnogaaTotals.lean).
  GIVEN WITH THE SEED: the statements are not yours to turn. If you find one false, say at which input.
  Laid BY PROGRAM, IN A SANDBOX (cutbox-rows.mjs): the forced cells as the released guide's own fill.sh prints them over the translation fa65fd2658cfea77… (all of the seat's roots in one cut). By AI agents, Wed Nov 11 2026. No macro, syntax, notation, axiom, sorry.
-/
import Derived.Test.YtdhfecaoadnogaaChecked
import GoSem.Claim
import GoSem.ClaimJoined
import GoSem.ClaimMapViews
import Derived.JoinedTies
import Derived.KernelRfl
namespace Go.Proofs.Ytdhfecaoadnogaa
/- THE CELL 'sum', in the pinned program and in every row, IS THE sha256 OF THE DUMP (.gsa) THAT YtdhfecaoadnogaaProg.lean LOADS. Nothing in Lean hashes anything: it is a label: what it is worth is what the hold of that sum in a sandbox is worth. -/
noncomputable def Try.pinned : Pinned := { name := "ytdhfecaoadnogaa", sum := "fa65fd2658cfea77dbfa906f599808f9c579ed1d71f8891c80e66cdf1ad1ecc5", checked := Try.checked }
namespace Rows
def none {H : Type} : Left H := { results := [], args := [] }

/-- 'pensionlaw3.RationalMakes': WHATEVER THE INPUT: true; the input reads as it did. -/
def rationalMakesSpec : ChangeSpec := { name := "rationalMakes", fn := fun _ => fun
  | [d1, d2, d3] => { results := [.lit (.bool true)], args := [d1, d2, d3] }
  | _ => none }
def rationalMakesRow : OpenClaim := { program := "ytdhfecaoadnogaa", sum := "fa65fd2658cfea77dbfa906f599808f9c579ed1d71f8891c80e66cdf1ad1ecc5", func := "pension/pensionlaw3.RationalMakes", spec := "rationalMakes", named := ["math/bits.divideError", "math/bits.overflowError"], apart := false }
def RationalMakesSaid : Prop := rationalMakesRow.holds Try.pinned (OpenSpec.ofChange rationalMakesSpec)

/-- ITS FALSE NEIGHBOUR: 'it returns false'. Refute it at one input. -/
def rationalMakesWrong : ChangeSpec := { name := "rationalMakes", fn := fun _ => fun
  | [d1, d2, d3] => { results := [.lit (.bool false)], args := [d1, d2, d3] }
  | _ => none }
def RationalMakesWrongFalsely : Prop := rationalMakesRow.holds Try.pinned (OpenSpec.ofChange rationalMakesWrong)

/-- 'pensionlaw3.RationalSigns': WHATEVER THE INPUT: true; the input reads as it did. -/
def rationalSignsSpec : ChangeSpec := { name := "rationalSigns", fn := fun _ => fun
  | [d1, d2] => { results := [.lit (.bool true)], args := [d1, d2] }
  | _ => none }
def rationalSignsRow : OpenClaim := { program := "ytdhfecaoadnogaa", sum := "fa65fd2658cfea77dbfa906f599808f9c579ed1d71f8891c80e66cdf1ad1ecc5", func := "pension/pensionlaw3.RationalSigns", spec := "rationalSigns", named := ["math/bits.divideError", "math/bits.overflowError"], apart := false }
def RationalSignsSaid : Prop := rationalSignsRow.holds Try.pinned (OpenSpec.ofChange rationalSignsSpec)

/-- ITS FALSE NEIGHBOUR: 'it returns false'. Refute it at one input. -/
def rationalSignsWrong : ChangeSpec := { name := "rationalSigns", fn := fun _ => fun
  | [d1, d2] => { results := [.lit (.bool false)], args := [d1, d2] }
  | _ => none }
def RationalSignsWrongFalsely : Prop := rationalSignsRow.holds Try.pinned (OpenSpec.ofChange rationalSignsWrong)

/-- 'pensionlaw3.RationalFloors': WHATEVER THE INPUT: true; the input reads as it did. -/
def rationalFloorsSpec : ChangeSpec := { name := "rationalFloors", fn := fun _ => fun
  | [d1, d2] => { results := [.lit (.bool true)], args := [d1, d2] }
  | _ => none }
def rationalFloorsRow : OpenClaim := { program := "ytdhfecaoadnogaa", sum := "fa65fd2658cfea77dbfa906f599808f9c579ed1d71f8891c80e66cdf1ad1ecc5", func := "pension/pensionlaw3.RationalFloors", spec := "rationalFloors", named := ["math/bits.divideError", "math/bits.overflowError"], apart := false }
def RationalFloorsSaid : Prop := rationalFloorsRow.holds Try.pinned (OpenSpec.ofChange rationalFloorsSpec)

/-- ITS FALSE NEIGHBOUR: 'it returns false'. Refute it at one input. -/
def rationalFloorsWrong : ChangeSpec := { name := "rationalFloors", fn := fun _ => fun
  | [d1, d2] => { results := [.lit (.bool false)], args := [d1, d2] }
  | _ => none }
def RationalFloorsWrongFalsely : Prop := rationalFloorsRow.holds Try.pinned (OpenSpec.ofChange rationalFloorsWrong)

/-- 'pensionlaw3.RationalProducts': WHATEVER THE INPUT: true; the input reads as it did. -/
def rationalProductsSpec : ChangeSpec := { name := "rationalProducts", fn := fun _ => fun
  | [d1, d2, d3, d4] => { results := [.lit (.bool true)], args := [d1, d2, d3, d4] }
  | _ => none }
def rationalProductsRow : OpenClaim := { program := "ytdhfecaoadnogaa", sum := "fa65fd2658cfea77dbfa906f599808f9c579ed1d71f8891c80e66cdf1ad1ecc5", func := "pension/pensionlaw3.RationalProducts", spec := "rationalProducts", named := ["math/bits.divideError", "math/bits.overflowError"], apart := false }
def RationalProductsSaid : Prop := rationalProductsRow.holds Try.pinned (OpenSpec.ofChange rationalProductsSpec)

/-- ITS FALSE NEIGHBOUR: 'it returns false'. Refute it at one input. -/
def rationalProductsWrong : ChangeSpec := { name := "rationalProducts", fn := fun _ => fun
  | [d1, d2, d3, d4] => { results := [.lit (.bool false)], args := [d1, d2, d3, d4] }
  | _ => none }
def RationalProductsWrongFalsely : Prop := rationalProductsRow.holds Try.pinned (OpenSpec.ofChange rationalProductsWrong)

/-- 'pensionlaw3.RationalCompares': WHATEVER THE INPUT: true; the input reads as it did. -/
def rationalComparesSpec : ChangeSpec := { name := "rationalCompares", fn := fun _ => fun
  | [d1, d2, d3, d4] => { results := [.lit (.bool true)], args := [d1, d2, d3, d4] }
  | _ => none }
def rationalComparesRow : OpenClaim := { program := "ytdhfecaoadnogaa", sum := "fa65fd2658cfea77dbfa906f599808f9c579ed1d71f8891c80e66cdf1ad1ecc5", func := "pension/pensionlaw3.RationalCompares", spec := "rationalCompares", named := ["math/bits.divideError", "math/bits.overflowError"], apart := false }
def RationalComparesSaid : Prop := rationalComparesRow.holds Try.pinned (OpenSpec.ofChange rationalComparesSpec)

/-- ITS FALSE NEIGHBOUR: 'it returns false'. Refute it at one input. -/
def rationalComparesWrong : ChangeSpec := { name := "rationalCompares", fn := fun _ => fun
  | [d1, d2, d3, d4] => { results := [.lit (.bool false)], args := [d1, d2, d3, d4] }
  | _ => none }
def RationalComparesWrongFalsely : Prop := rationalComparesRow.holds Try.pinned (OpenSpec.ofChange rationalComparesWrong)

/-- 'pensionlaw3.RationalBetween': WHATEVER THE INPUT: true; the input reads as it did. -/
def rationalBetweenSpec : ChangeSpec := { name := "rationalBetween", fn := fun _ => fun
  | [d1, d2] => { results := [.lit (.bool true)], args := [d1, d2] }
  | _ => none }
def rationalBetweenRow : OpenClaim := { program := "ytdhfecaoadnogaa", sum := "fa65fd2658cfea77dbfa906f599808f9c579ed1d71f8891c80e66cdf1ad1ecc5", func := "pension/pensionlaw3.RationalBetween", spec := "rationalBetween", named := ["math/bits.divideError", "math/bits.overflowError"], apart := false }
def RationalBetweenSaid : Prop := rationalBetweenRow.holds Try.pinned (OpenSpec.ofChange rationalBetweenSpec)

/-- ITS FALSE NEIGHBOUR: 'it returns false'. Refute it at one input. -/
def rationalBetweenWrong : ChangeSpec := { name := "rationalBetween", fn := fun _ => fun
  | [d1, d2] => { results := [.lit (.bool false)], args := [d1, d2] }
  | _ => none }
def RationalBetweenWrongFalsely : Prop := rationalBetweenRow.holds Try.pinned (OpenSpec.ofChange rationalBetweenWrong)

/-- 'pensionlaw3.RationalCommutes': WHATEVER THE INPUT: true; the input reads as it did. -/
def rationalCommutesSpec : ChangeSpec := { name := "rationalCommutes", fn := fun _ => fun
  | [d1, d2, d3, d4] => { results := [.lit (.bool true)], args := [d1, d2, d3, d4] }
  | _ => none }
def rationalCommutesRow : OpenClaim := { program := "ytdhfecaoadnogaa", sum := "fa65fd2658cfea77dbfa906f599808f9c579ed1d71f8891c80e66cdf1ad1ecc5", func := "pension/pensionlaw3.RationalCommutes", spec := "rationalCommutes", inPlace := ["math/bits.Add64", "math/bits.Sub64"], named := ["math/bits.divideError", "math/bits.overflowError"], apart := false }
def RationalCommutesSaid : Prop := rationalCommutesRow.holds Try.pinned (OpenSpec.ofChange rationalCommutesSpec)

/-- ITS FALSE NEIGHBOUR: 'it returns false'. Refute it at one input. -/
def rationalCommutesWrong : ChangeSpec := { name := "rationalCommutes", fn := fun _ => fun
  | [d1, d2, d3, d4] => { results := [.lit (.bool false)], args := [d1, d2, d3, d4] }
  | _ => none }
def RationalCommutesWrongFalsely : Prop := rationalCommutesRow.holds Try.pinned (OpenSpec.ofChange rationalCommutesWrong)

/-- 'pensionlaw3.RationalGroups': WHATEVER THE INPUT: true; the input reads as it did. -/
def rationalGroupsSpec : ChangeSpec := { name := "rationalGroups", fn := fun _ => fun
  | [d1, d2, d3, d4, d5, d6] => { results := [.lit (.bool true)], args := [d1, d2, d3, d4, d5, d6] }
  | _ => none }
def rationalGroupsRow : OpenClaim := { program := "ytdhfecaoadnogaa", sum := "fa65fd2658cfea77dbfa906f599808f9c579ed1d71f8891c80e66cdf1ad1ecc5", func := "pension/pensionlaw3.RationalGroups", spec := "rationalGroups", inPlace := ["math/bits.Add64", "math/bits.Sub64"], named := ["math/bits.divideError", "math/bits.overflowError"], apart := false }
def RationalGroupsSaid : Prop := rationalGroupsRow.holds Try.pinned (OpenSpec.ofChange rationalGroupsSpec)

/-- ITS FALSE NEIGHBOUR: 'it returns false'. Refute it at one input. -/
def rationalGroupsWrong : ChangeSpec := { name := "rationalGroups", fn := fun _ => fun
  | [d1, d2, d3, d4, d5, d6] => { results := [.lit (.bool false)], args := [d1, d2, d3, d4, d5, d6] }
  | _ => none }
def RationalGroupsWrongFalsely : Prop := rationalGroupsRow.holds Try.pinned (OpenSpec.ofChange rationalGroupsWrong)

/-- 'pensionlaw3.RationalSpreads': WHATEVER THE INPUT: true; the input reads as it did. -/
def rationalSpreadsSpec : ChangeSpec := { name := "rationalSpreads", fn := fun _ => fun
  | [d1, d2, d3, d4, d5, d6] => { results := [.lit (.bool true)], args := [d1, d2, d3, d4, d5, d6] }
  | _ => none }
def rationalSpreadsRow : OpenClaim := { program := "ytdhfecaoadnogaa", sum := "fa65fd2658cfea77dbfa906f599808f9c579ed1d71f8891c80e66cdf1ad1ecc5", func := "pension/pensionlaw3.RationalSpreads", spec := "rationalSpreads", inPlace := ["math/bits.Add64", "math/bits.Sub64"], named := ["math/bits.divideError", "math/bits.overflowError"], apart := false }
def RationalSpreadsSaid : Prop := rationalSpreadsRow.holds Try.pinned (OpenSpec.ofChange rationalSpreadsSpec)

/-- ITS FALSE NEIGHBOUR: 'it returns false'. Refute it at one input. -/
def rationalSpreadsWrong : ChangeSpec := { name := "rationalSpreads", fn := fun _ => fun
  | [d1, d2, d3, d4, d5, d6] => { results := [.lit (.bool false)], args := [d1, d2, d3, d4, d5, d6] }
  | _ => none }
def RationalSpreadsWrongFalsely : Prop := rationalSpreadsRow.holds Try.pinned (OpenSpec.ofChange rationalSpreadsWrong)

/-- 'pensionlaw3.RationalSums': WHATEVER THE INPUT: true; the input reads as it did. -/
def rationalSumsSpec : ChangeSpec := { name := "rationalSums", fn := fun _ => fun
  | [d1, d2, d3, d4] => { results := [.lit (.bool true)], args := [d1, d2, d3, d4] }
  | _ => none }
def rationalSumsRow : OpenClaim := { program := "ytdhfecaoadnogaa", sum := "fa65fd2658cfea77dbfa906f599808f9c579ed1d71f8891c80e66cdf1ad1ecc5", func := "pension/pensionlaw3.RationalSums", spec := "rationalSums", inPlace := ["math/bits.Add64", "math/bits.Sub64"], named := ["math/bits.divideError", "math/bits.overflowError"], apart := false }
def RationalSumsSaid : Prop := rationalSumsRow.holds Try.pinned (OpenSpec.ofChange rationalSumsSpec)

/-- ITS FALSE NEIGHBOUR: 'it returns false'. Refute it at one input. -/
def rationalSumsWrong : ChangeSpec := { name := "rationalSums", fn := fun _ => fun
  | [d1, d2, d3, d4] => { results := [.lit (.bool false)], args := [d1, d2, d3, d4] }
  | _ => none }
def RationalSumsWrongFalsely : Prop := rationalSumsRow.holds Try.pinned (OpenSpec.ofChange rationalSumsWrong)

/-- 'pensionlaw3.RationalUndoes': WHATEVER THE INPUT: true; the input reads as it did. -/
def rationalUndoesSpec : ChangeSpec := { name := "rationalUndoes", fn := fun _ => fun
  | [d1, d2, d3, d4] => { results := [.lit (.bool true)], args := [d1, d2, d3, d4] }
  | _ => none }
def rationalUndoesRow : OpenClaim := { program := "ytdhfecaoadnogaa", sum := "fa65fd2658cfea77dbfa906f599808f9c579ed1d71f8891c80e66cdf1ad1ecc5", func := "pension/pensionlaw3.RationalUndoes", spec := "rationalUndoes", inPlace := ["math/bits.Add64", "math/bits.Sub64"], named := ["math/bits.divideError", "math/bits.overflowError"], apart := false }
def RationalUndoesSaid : Prop := rationalUndoesRow.holds Try.pinned (OpenSpec.ofChange rationalUndoesSpec)

/-- ITS FALSE NEIGHBOUR: 'it returns false'. Refute it at one input. -/
def rationalUndoesWrong : ChangeSpec := { name := "rationalUndoes", fn := fun _ => fun
  | [d1, d2, d3, d4] => { results := [.lit (.bool false)], args := [d1, d2, d3, d4] }
  | _ => none }
def RationalUndoesWrongFalsely : Prop := rationalUndoesRow.holds Try.pinned (OpenSpec.ofChange rationalUndoesWrong)

/-- 'pensionlaw3.RationalOrder': WHATEVER THE INPUT: true; the input reads as it did. -/
def rationalOrderSpec : ChangeSpec := { name := "rationalOrder", fn := fun _ => fun
  | [d1, d2, d3, d4, d5, d6] => { results := [.lit (.bool true)], args := [d1, d2, d3, d4, d5, d6] }
  | _ => none }
def rationalOrderRow : OpenClaim := { program := "ytdhfecaoadnogaa", sum := "fa65fd2658cfea77dbfa906f599808f9c579ed1d71f8891c80e66cdf1ad1ecc5", func := "pension/pensionlaw3.RationalOrder", spec := "rationalOrder", inPlace := ["math/bits.Add64", "math/bits.Sub64"], named := ["math/bits.divideError", "math/bits.overflowError"], apart := false }
def RationalOrderSaid : Prop := rationalOrderRow.holds Try.pinned (OpenSpec.ofChange rationalOrderSpec)

/-- ITS FALSE NEIGHBOUR: 'it returns false'. Refute it at one input. -/
def rationalOrderWrong : ChangeSpec := { name := "rationalOrder", fn := fun _ => fun
  | [d1, d2, d3, d4, d5, d6] => { results := [.lit (.bool false)], args := [d1, d2, d3, d4, d5, d6] }
  | _ => none }
def RationalOrderWrongFalsely : Prop := rationalOrderRow.holds Try.pinned (OpenSpec.ofChange rationalOrderWrong)

/- THE SECOND FORM. 'bulk': how many values and letters a reading holds, each counted each time it is reached (what is shared counts as often as it is met; a slice's spare places count too). A statement '..UptoSaid' is the law's where the arguments, and the package variables that the reading takes, are together of bulk at most 1048576: NARROWER than '..Said'. Prove '..Said' where nothing that the law and all that it calls make is longer than what came in: it says more and counts as full. Else prove '..UptoSaid'. A law counts once. -/
mutual
def uptoBulk {H : Type} : DataW H → Nat
  | .lit (.string bytes) => bytes.length + 1
  | .lit _ => 1
  | .nil => 1
  | .ptr d => uptoBulk d + 1
  | .slice elems spare => uptoBulkAll elems + uptoBulkAll spare + 1
  | .agg parts => uptoBulkAll parts + 1
  | .iface _ d => uptoBulk d + 1
  | .map entries => uptoBulkEntries entries + 1
  | .held _ => 1
def uptoBulkAll {H : Type} : List (DataW H) → Nat
  | [] => 0
  | d :: r => uptoBulk d + uptoBulkAll r
def uptoBulkEntries {H : Type} : List (Lit × DataW H) → Nat
  | [] => 0
  | x :: r => uptoBulkEntry x + uptoBulkEntries r
def uptoBulkEntry {H : Type} : Lit × DataW H → Nat
  | (.string bytes, d) => bytes.length + uptoBulk d + 1
  | (_, d) => uptoBulk d + 1
 end
def uptoSmall : (H : Type) → List (DataW H) → Bool := fun _ ds => decide (uptoBulkAll ds ≤ 1048576)
def OpenSpec.upto (s : _root_.Go.ChangeSpec) : _root_.Go.OpenSpec := { _root_.Go.OpenSpec.ofChange s with cond := some uptoSmall }

/-- 'pensionlaw3.RationalMakes', WHERE WHAT IT READS IS OF BULK AT MOST 1048576: true; the input reads as it did. -/
def rationalMakesUptoRow : OpenClaim := { program := "ytdhfecaoadnogaa", sum := "fa65fd2658cfea77dbfa906f599808f9c579ed1d71f8891c80e66cdf1ad1ecc5", func := "pension/pensionlaw3.RationalMakes", spec := "rationalMakes", named := ["math/bits.divideError", "math/bits.overflowError"], apart := false, narrowed := true }
def RationalMakesUptoSaid : Prop := rationalMakesUptoRow.holds Try.pinned (OpenSpec.upto rationalMakesSpec)

/-- 'pensionlaw3.RationalSigns', WHERE WHAT IT READS IS OF BULK AT MOST 1048576: true; the input reads as it did. -/
def rationalSignsUptoRow : OpenClaim := { program := "ytdhfecaoadnogaa", sum := "fa65fd2658cfea77dbfa906f599808f9c579ed1d71f8891c80e66cdf1ad1ecc5", func := "pension/pensionlaw3.RationalSigns", spec := "rationalSigns", named := ["math/bits.divideError", "math/bits.overflowError"], apart := false, narrowed := true }
def RationalSignsUptoSaid : Prop := rationalSignsUptoRow.holds Try.pinned (OpenSpec.upto rationalSignsSpec)

/-- 'pensionlaw3.RationalFloors', WHERE WHAT IT READS IS OF BULK AT MOST 1048576: true; the input reads as it did. -/
def rationalFloorsUptoRow : OpenClaim := { program := "ytdhfecaoadnogaa", sum := "fa65fd2658cfea77dbfa906f599808f9c579ed1d71f8891c80e66cdf1ad1ecc5", func := "pension/pensionlaw3.RationalFloors", spec := "rationalFloors", named := ["math/bits.divideError", "math/bits.overflowError"], apart := false, narrowed := true }
def RationalFloorsUptoSaid : Prop := rationalFloorsUptoRow.holds Try.pinned (OpenSpec.upto rationalFloorsSpec)

/-- 'pensionlaw3.RationalProducts', WHERE WHAT IT READS IS OF BULK AT MOST 1048576: true; the input reads as it did. -/
def rationalProductsUptoRow : OpenClaim := { program := "ytdhfecaoadnogaa", sum := "fa65fd2658cfea77dbfa906f599808f9c579ed1d71f8891c80e66cdf1ad1ecc5", func := "pension/pensionlaw3.RationalProducts", spec := "rationalProducts", named := ["math/bits.divideError", "math/bits.overflowError"], apart := false, narrowed := true }
def RationalProductsUptoSaid : Prop := rationalProductsUptoRow.holds Try.pinned (OpenSpec.upto rationalProductsSpec)

/-- 'pensionlaw3.RationalCompares', WHERE WHAT IT READS IS OF BULK AT MOST 1048576: true; the input reads as it did. -/
def rationalComparesUptoRow : OpenClaim := { program := "ytdhfecaoadnogaa", sum := "fa65fd2658cfea77dbfa906f599808f9c579ed1d71f8891c80e66cdf1ad1ecc5", func := "pension/pensionlaw3.RationalCompares", spec := "rationalCompares", named := ["math/bits.divideError", "math/bits.overflowError"], apart := false, narrowed := true }
def RationalComparesUptoSaid : Prop := rationalComparesUptoRow.holds Try.pinned (OpenSpec.upto rationalComparesSpec)

/-- 'pensionlaw3.RationalBetween', WHERE WHAT IT READS IS OF BULK AT MOST 1048576: true; the input reads as it did. -/
def rationalBetweenUptoRow : OpenClaim := { program := "ytdhfecaoadnogaa", sum := "fa65fd2658cfea77dbfa906f599808f9c579ed1d71f8891c80e66cdf1ad1ecc5", func := "pension/pensionlaw3.RationalBetween", spec := "rationalBetween", named := ["math/bits.divideError", "math/bits.overflowError"], apart := false, narrowed := true }
def RationalBetweenUptoSaid : Prop := rationalBetweenUptoRow.holds Try.pinned (OpenSpec.upto rationalBetweenSpec)

/-- 'pensionlaw3.RationalCommutes', WHERE WHAT IT READS IS OF BULK AT MOST 1048576: true; the input reads as it did. -/
def rationalCommutesUptoRow : OpenClaim := { program := "ytdhfecaoadnogaa", sum := "fa65fd2658cfea77dbfa906f599808f9c579ed1d71f8891c80e66cdf1ad1ecc5", func := "pension/pensionlaw3.RationalCommutes", spec := "rationalCommutes", inPlace := ["math/bits.Add64", "math/bits.Sub64"], named := ["math/bits.divideError", "math/bits.overflowError"], apart := false, narrowed := true }
def RationalCommutesUptoSaid : Prop := rationalCommutesUptoRow.holds Try.pinned (OpenSpec.upto rationalCommutesSpec)

/-- 'pensionlaw3.RationalGroups', WHERE WHAT IT READS IS OF BULK AT MOST 1048576: true; the input reads as it did. -/
def rationalGroupsUptoRow : OpenClaim := { program := "ytdhfecaoadnogaa", sum := "fa65fd2658cfea77dbfa906f599808f9c579ed1d71f8891c80e66cdf1ad1ecc5", func := "pension/pensionlaw3.RationalGroups", spec := "rationalGroups", inPlace := ["math/bits.Add64", "math/bits.Sub64"], named := ["math/bits.divideError", "math/bits.overflowError"], apart := false, narrowed := true }
def RationalGroupsUptoSaid : Prop := rationalGroupsUptoRow.holds Try.pinned (OpenSpec.upto rationalGroupsSpec)

/-- 'pensionlaw3.RationalSpreads', WHERE WHAT IT READS IS OF BULK AT MOST 1048576: true; the input reads as it did. -/
def rationalSpreadsUptoRow : OpenClaim := { program := "ytdhfecaoadnogaa", sum := "fa65fd2658cfea77dbfa906f599808f9c579ed1d71f8891c80e66cdf1ad1ecc5", func := "pension/pensionlaw3.RationalSpreads", spec := "rationalSpreads", inPlace := ["math/bits.Add64", "math/bits.Sub64"], named := ["math/bits.divideError", "math/bits.overflowError"], apart := false, narrowed := true }
def RationalSpreadsUptoSaid : Prop := rationalSpreadsUptoRow.holds Try.pinned (OpenSpec.upto rationalSpreadsSpec)

/-- 'pensionlaw3.RationalSums', WHERE WHAT IT READS IS OF BULK AT MOST 1048576: true; the input reads as it did. -/
def rationalSumsUptoRow : OpenClaim := { program := "ytdhfecaoadnogaa", sum := "fa65fd2658cfea77dbfa906f599808f9c579ed1d71f8891c80e66cdf1ad1ecc5", func := "pension/pensionlaw3.RationalSums", spec := "rationalSums", inPlace := ["math/bits.Add64", "math/bits.Sub64"], named := ["math/bits.divideError", "math/bits.overflowError"], apart := false, narrowed := true }
def RationalSumsUptoSaid : Prop := rationalSumsUptoRow.holds Try.pinned (OpenSpec.upto rationalSumsSpec)

/-- 'pensionlaw3.RationalUndoes', WHERE WHAT IT READS IS OF BULK AT MOST 1048576: true; the input reads as it did. -/
def rationalUndoesUptoRow : OpenClaim := { program := "ytdhfecaoadnogaa", sum := "fa65fd2658cfea77dbfa906f599808f9c579ed1d71f8891c80e66cdf1ad1ecc5", func := "pension/pensionlaw3.RationalUndoes", spec := "rationalUndoes", inPlace := ["math/bits.Add64", "math/bits.Sub64"], named := ["math/bits.divideError", "math/bits.overflowError"], apart := false, narrowed := true }
def RationalUndoesUptoSaid : Prop := rationalUndoesUptoRow.holds Try.pinned (OpenSpec.upto rationalUndoesSpec)

/-- 'pensionlaw3.RationalOrder', WHERE WHAT IT READS IS OF BULK AT MOST 1048576: true; the input reads as it did. -/
def rationalOrderUptoRow : OpenClaim := { program := "ytdhfecaoadnogaa", sum := "fa65fd2658cfea77dbfa906f599808f9c579ed1d71f8891c80e66cdf1ad1ecc5", func := "pension/pensionlaw3.RationalOrder", spec := "rationalOrder", inPlace := ["math/bits.Add64", "math/bits.Sub64"], named := ["math/bits.divideError", "math/bits.overflowError"], apart := false, narrowed := true }
def RationalOrderUptoSaid : Prop := rationalOrderUptoRow.holds Try.pinned (OpenSpec.upto rationalOrderSpec)

end Rows
end Go.Proofs.Ytdhfecaoadnogaa
