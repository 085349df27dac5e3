/-
  No cell of these rows narrows 'for every input' (looked for: loops, veiled, ifaces, maps, wideKeys, modest, calm, conditions, laid).
  DERIVED. THE GIVEN ROWS OF THIS SEAT. 6 by the template 'for every input the law returns true; each argument reads behind the call as it read before'; 0 by the template 'total and deterministic' (their statements: YtfdajdlbkdfhoaaTotals.lean).
  GIVEN WITH THE SEED: the statements are not yours to turn. If you find one false, say at which input.
  Laid BY PROGRAM, IN A SANDBOX (cutbox-rows.mjs): the forced cells as the released guide's own fill.sh prints them over the translation d91ed1466d5dd01a… (all of the seat's roots in one cut). By AI agents, Wed Nov 11 2026. No macro, syntax, notation, axiom, sorry.
-/
import Derived.Test.YtfdajdlbkdfhoaaChecked
import GoSem.Claim
import GoSem.ClaimJoined
import GoSem.ClaimMapViews
import Derived.JoinedTies
import Derived.KernelRfl
namespace Go.Proofs.Ytfdajdlbkdfhoaa
/- THE CELL 'sum', in the pinned program and in every row, IS THE sha256 OF THE DUMP (.gsa) THAT YtfdajdlbkdfhoaaProg.lean LOADS. Nothing in Lean hashes anything: it is a label: what it is worth is what the hold of that sum in a sandbox is worth. -/
noncomputable def Try.pinned : Pinned := { name := "ytfdajdlbkdfhoaa", sum := "d91ed1466d5dd01aa0eb9bd7d54134720f42e7c070e6500053be0a4dc3243b7f", checked := Try.checked }
namespace Rows
def none {H : Type} : Left H := { results := [], args := [] }

/-- 'pensionlaw5.TokenNext': WHATEVER THE INPUT: true; the input reads as it did. -/
def tokenNextSpec : ChangeSpec := { name := "tokenNext", fn := fun _ => fun
  | [d1, d2, d3, d4] => { results := [.lit (.bool true)], args := [d1, d2, d3, d4] }
  | _ => none }
def tokenNextRow : OpenClaim := { program := "ytfdajdlbkdfhoaa", sum := "d91ed1466d5dd01aa0eb9bd7d54134720f42e7c070e6500053be0a4dc3243b7f", func := "pension/pensionlaw5.TokenNext", spec := "tokenNext", inPlace := ["internal/bytealg.IndexByteString", "internal/bytealg.IndexString"], named := ["internal/bytealg.MaxLen"], apart := false }
def TokenNextSaid : Prop := tokenNextRow.holds Try.pinned (OpenSpec.ofChange tokenNextSpec)

/-- ITS FALSE NEIGHBOUR: 'it returns false'. Refute it at one input. -/
def tokenNextWrong : ChangeSpec := { name := "tokenNext", fn := fun _ => fun
  | [d1, d2, d3, d4] => { results := [.lit (.bool false)], args := [d1, d2, d3, d4] }
  | _ => none }
def TokenNextWrongFalsely : Prop := tokenNextRow.holds Try.pinned (OpenSpec.ofChange tokenNextWrong)

/-- 'pensionlaw5.TokenAll': WHATEVER THE INPUT: true; the input reads as it did. -/
def tokenAllSpec : ChangeSpec := { name := "tokenAll", fn := fun _ => fun
  | [d1, d2, d3] => { results := [.lit (.bool true)], args := [d1, d2, d3] }
  | _ => none }
def tokenAllRow : OpenClaim := { program := "ytfdajdlbkdfhoaa", sum := "d91ed1466d5dd01aa0eb9bd7d54134720f42e7c070e6500053be0a4dc3243b7f", func := "pension/pensionlaw5.TokenAll", spec := "tokenAll", inPlace := ["internal/bytealg.IndexByteString", "internal/bytealg.IndexString"], named := ["internal/bytealg.MaxLen"], apart := false }
def TokenAllSaid : Prop := tokenAllRow.holds Try.pinned (OpenSpec.ofChange tokenAllSpec)

/-- ITS FALSE NEIGHBOUR: 'it returns false'. Refute it at one input. -/
def tokenAllWrong : ChangeSpec := { name := "tokenAll", fn := fun _ => fun
  | [d1, d2, d3] => { results := [.lit (.bool false)], args := [d1, d2, d3] }
  | _ => none }
def TokenAllWrongFalsely : Prop := tokenAllRow.holds Try.pinned (OpenSpec.ofChange tokenAllWrong)

/-- 'pensionlaw5.TokenCover': WHATEVER THE INPUT: true; the input reads as it did. -/
def tokenCoverSpec : ChangeSpec := { name := "tokenCover", fn := fun _ => fun
  | [d1, d2, d3] => { results := [.lit (.bool true)], args := [d1, d2, d3] }
  | _ => none }
def tokenCoverRow : OpenClaim := { program := "ytfdajdlbkdfhoaa", sum := "d91ed1466d5dd01aa0eb9bd7d54134720f42e7c070e6500053be0a4dc3243b7f", func := "pension/pensionlaw5.TokenCover", spec := "tokenCover", inPlace := ["internal/bytealg.IndexByteString", "internal/bytealg.IndexString"], named := ["internal/bytealg.MaxLen"], apart := false }
def TokenCoverSaid : Prop := tokenCoverRow.holds Try.pinned (OpenSpec.ofChange tokenCoverSpec)

/-- ITS FALSE NEIGHBOUR: 'it returns false'. Refute it at one input. -/
def tokenCoverWrong : ChangeSpec := { name := "tokenCover", fn := fun _ => fun
  | [d1, d2, d3] => { results := [.lit (.bool false)], args := [d1, d2, d3] }
  | _ => none }
def TokenCoverWrongFalsely : Prop := tokenCoverRow.holds Try.pinned (OpenSpec.ofChange tokenCoverWrong)

/-- 'pensionlaw5.TokenLong': WHATEVER THE INPUT: true; the input reads as it did. -/
def tokenLongSpec : ChangeSpec := { name := "tokenLong", fn := fun _ => fun
  | [d] => { results := [.lit (.bool true)], args := [d] }
  | _ => none }
def tokenLongRow : OpenClaim := { program := "ytfdajdlbkdfhoaa", sum := "d91ed1466d5dd01aa0eb9bd7d54134720f42e7c070e6500053be0a4dc3243b7f", func := "pension/pensionlaw5.TokenLong", spec := "tokenLong", inPlace := ["internal/bytealg.IndexByteString", "internal/bytealg.IndexString"], named := ["internal/bytealg.MaxLen"], apart := false }
def TokenLongSaid : Prop := tokenLongRow.holds Try.pinned (OpenSpec.ofChange tokenLongSpec)

/-- ITS FALSE NEIGHBOUR: 'it returns false'. Refute it at one input. -/
def tokenLongWrong : ChangeSpec := { name := "tokenLong", fn := fun _ => fun
  | [d] => { results := [.lit (.bool false)], args := [d] }
  | _ => none }
def TokenLongWrongFalsely : Prop := tokenLongRow.holds Try.pinned (OpenSpec.ofChange tokenLongWrong)

/-- 'pensionlaw5.TokenWords': WHATEVER THE INPUT: true; the input reads as it did. -/
def tokenWordsSpec : ChangeSpec := { name := "tokenWords", fn := fun _ => fun
  | [d1, d2] => { results := [.lit (.bool true)], args := [d1, d2] }
  | _ => none }
def tokenWordsRow : OpenClaim := { program := "ytfdajdlbkdfhoaa", sum := "d91ed1466d5dd01aa0eb9bd7d54134720f42e7c070e6500053be0a4dc3243b7f", func := "pension/pensionlaw5.TokenWords", spec := "tokenWords", inPlace := ["internal/bytealg.IndexByteString", "internal/bytealg.IndexString"], named := ["internal/bytealg.MaxLen"], apart := false }
def TokenWordsSaid : Prop := tokenWordsRow.holds Try.pinned (OpenSpec.ofChange tokenWordsSpec)

/-- ITS FALSE NEIGHBOUR: 'it returns false'. Refute it at one input. -/
def tokenWordsWrong : ChangeSpec := { name := "tokenWords", fn := fun _ => fun
  | [d1, d2] => { results := [.lit (.bool false)], args := [d1, d2] }
  | _ => none }
def TokenWordsWrongFalsely : Prop := tokenWordsRow.holds Try.pinned (OpenSpec.ofChange tokenWordsWrong)

/-- 'pensionlaw5.TokenDecimals': WHATEVER THE INPUT: true; the input reads as it did. -/
def tokenDecimalsSpec : ChangeSpec := { name := "tokenDecimals", fn := fun _ => fun
  | [d1, d2] => { results := [.lit (.bool true)], args := [d1, d2] }
  | _ => none }
def tokenDecimalsRow : OpenClaim := { program := "ytfdajdlbkdfhoaa", sum := "d91ed1466d5dd01aa0eb9bd7d54134720f42e7c070e6500053be0a4dc3243b7f", func := "pension/pensionlaw5.TokenDecimals", spec := "tokenDecimals", inPlace := ["internal/bytealg.IndexByteString", "internal/bytealg.IndexString"], named := ["internal/bytealg.MaxLen", "math/bits.divideError", "math/bits.overflowError"], apart := false }
def TokenDecimalsSaid : Prop := tokenDecimalsRow.holds Try.pinned (OpenSpec.ofChange tokenDecimalsSpec)

/-- ITS FALSE NEIGHBOUR: 'it returns false'. Refute it at one input. -/
def tokenDecimalsWrong : ChangeSpec := { name := "tokenDecimals", fn := fun _ => fun
  | [d1, d2] => { results := [.lit (.bool false)], args := [d1, d2] }
  | _ => none }
def TokenDecimalsWrongFalsely : Prop := tokenDecimalsRow.holds Try.pinned (OpenSpec.ofChange tokenDecimalsWrong)

/- THE SECOND FORM. 'bulk': how many values and letters a reading holds, each counted each time it is reached (what is shared counts as often as it is met; a slice's spare places count too). A statement '..UptoSaid' is the law's where the arguments, and the package variables that the reading takes, are together of bulk at most 1048576: NARROWER than '..Said'. Prove '..Said' where nothing that the law and all that it calls make is longer than what came in: it says more and counts as full. Else prove '..UptoSaid'. A law counts once. -/
mutual
def uptoBulk {H : Type} : DataW H → Nat
  | .lit (.string bytes) => bytes.length + 1
  | .lit _ => 1
  | .nil => 1
  | .ptr d => uptoBulk d + 1
  | .slice elems spare => uptoBulkAll elems + uptoBulkAll spare + 1
  | .agg parts => uptoBulkAll parts + 1
  | .iface _ d => uptoBulk d + 1
  | .map entries => uptoBulkEntries entries + 1
  | .held _ => 1
def uptoBulkAll {H : Type} : List (DataW H) → Nat
  | [] => 0
  | d :: r => uptoBulk d + uptoBulkAll r
def uptoBulkEntries {H : Type} : List (Lit × DataW H) → Nat
  | [] => 0
  | x :: r => uptoBulkEntry x + uptoBulkEntries r
def uptoBulkEntry {H : Type} : Lit × DataW H → Nat
  | (.string bytes, d) => bytes.length + uptoBulk d + 1
  | (_, d) => uptoBulk d + 1
 end
def uptoSmall : (H : Type) → List (DataW H) → Bool := fun _ ds => decide (uptoBulkAll ds ≤ 1048576)
def OpenSpec.upto (s : _root_.Go.ChangeSpec) : _root_.Go.OpenSpec := { _root_.Go.OpenSpec.ofChange s with cond := some uptoSmall }

/-- 'pensionlaw5.TokenNext', WHERE WHAT IT READS IS OF BULK AT MOST 1048576: true; the input reads as it did. -/
def tokenNextUptoRow : OpenClaim := { program := "ytfdajdlbkdfhoaa", sum := "d91ed1466d5dd01aa0eb9bd7d54134720f42e7c070e6500053be0a4dc3243b7f", func := "pension/pensionlaw5.TokenNext", spec := "tokenNext", inPlace := ["internal/bytealg.IndexByteString", "internal/bytealg.IndexString"], named := ["internal/bytealg.MaxLen"], apart := false, narrowed := true }
def TokenNextUptoSaid : Prop := tokenNextUptoRow.holds Try.pinned (OpenSpec.upto tokenNextSpec)

/-- 'pensionlaw5.TokenAll', WHERE WHAT IT READS IS OF BULK AT MOST 1048576: true; the input reads as it did. -/
def tokenAllUptoRow : OpenClaim := { program := "ytfdajdlbkdfhoaa", sum := "d91ed1466d5dd01aa0eb9bd7d54134720f42e7c070e6500053be0a4dc3243b7f", func := "pension/pensionlaw5.TokenAll", spec := "tokenAll", inPlace := ["internal/bytealg.IndexByteString", "internal/bytealg.IndexString"], named := ["internal/bytealg.MaxLen"], apart := false, narrowed := true }
def TokenAllUptoSaid : Prop := tokenAllUptoRow.holds Try.pinned (OpenSpec.upto tokenAllSpec)

/-- 'pensionlaw5.TokenCover', WHERE WHAT IT READS IS OF BULK AT MOST 1048576: true; the input reads as it did. -/
def tokenCoverUptoRow : OpenClaim := { program := "ytfdajdlbkdfhoaa", sum := "d91ed1466d5dd01aa0eb9bd7d54134720f42e7c070e6500053be0a4dc3243b7f", func := "pension/pensionlaw5.TokenCover", spec := "tokenCover", inPlace := ["internal/bytealg.IndexByteString", "internal/bytealg.IndexString"], named := ["internal/bytealg.MaxLen"], apart := false, narrowed := true }
def TokenCoverUptoSaid : Prop := tokenCoverUptoRow.holds Try.pinned (OpenSpec.upto tokenCoverSpec)

/-- 'pensionlaw5.TokenLong', WHERE WHAT IT READS IS OF BULK AT MOST 1048576: true; the input reads as it did. -/
def tokenLongUptoRow : OpenClaim := { program := "ytfdajdlbkdfhoaa", sum := "d91ed1466d5dd01aa0eb9bd7d54134720f42e7c070e6500053be0a4dc3243b7f", func := "pension/pensionlaw5.TokenLong", spec := "tokenLong", inPlace := ["internal/bytealg.IndexByteString", "internal/bytealg.IndexString"], named := ["internal/bytealg.MaxLen"], apart := false, narrowed := true }
def TokenLongUptoSaid : Prop := tokenLongUptoRow.holds Try.pinned (OpenSpec.upto tokenLongSpec)

/-- 'pensionlaw5.TokenWords', WHERE WHAT IT READS IS OF BULK AT MOST 1048576: true; the input reads as it did. -/
def tokenWordsUptoRow : OpenClaim := { program := "ytfdajdlbkdfhoaa", sum := "d91ed1466d5dd01aa0eb9bd7d54134720f42e7c070e6500053be0a4dc3243b7f", func := "pension/pensionlaw5.TokenWords", spec := "tokenWords", inPlace := ["internal/bytealg.IndexByteString", "internal/bytealg.IndexString"], named := ["internal/bytealg.MaxLen"], apart := false, narrowed := true }
def TokenWordsUptoSaid : Prop := tokenWordsUptoRow.holds Try.pinned (OpenSpec.upto tokenWordsSpec)

/-- 'pensionlaw5.TokenDecimals', WHERE WHAT IT READS IS OF BULK AT MOST 1048576: true; the input reads as it did. -/
def tokenDecimalsUptoRow : OpenClaim := { program := "ytfdajdlbkdfhoaa", sum := "d91ed1466d5dd01aa0eb9bd7d54134720f42e7c070e6500053be0a4dc3243b7f", func := "pension/pensionlaw5.TokenDecimals", spec := "tokenDecimals", inPlace := ["internal/bytealg.IndexByteString", "internal/bytealg.IndexString"], named := ["internal/bytealg.MaxLen", "math/bits.divideError", "math/bits.overflowError"], apart := false, narrowed := true }
def TokenDecimalsUptoSaid : Prop := tokenDecimalsUptoRow.holds Try.pinned (OpenSpec.upto tokenDecimalsSpec)

end Rows
end Go.Proofs.Ytfdajdlbkdfhoaa
