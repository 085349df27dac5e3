/- Contract of the reference's Decimal. No conditions but those printed. -/
import Derived.Test.YtnhmebhmlbofgaaDoorTokB
namespace Go.Proofs.YtnhmebhmlbofgaaDoor
open Go.RowKit Cal Str Tok Frac
attribute [local go_sem] calmUpon
set_option linter.unusedVariables false
set_option linter.unusedSimpArgs false

def DecRes (s : ByteArray) (w : World) (e : Ending) (w' : World) : Prop := e = .returned (.tuple #[.agg #[.int .i64 (decN s), .int .i64 (decD s)], .int .i64 (decX s), .bool (decB s)]) ∧ Rel w w'

theorem pow_bd (k n : Nat) (h : k ≤ n + 4) : 1 ≤ ((10 ^ (k - n) : Nat) : Int) ∧ ((10 ^ (k - n) : Nat) : Int) ≤ 10000 := by
  have h1 : 1 ≤ 10 ^ (k - n) := Nat.one_le_pow _ _ (by decide)
  have h2 := Nat.pow_le_pow_right (n := 10) (by decide) (show k - n ≤ 4 by omega)
  omega
end Go.Proofs.YtnhmebhmlbofgaaDoor
