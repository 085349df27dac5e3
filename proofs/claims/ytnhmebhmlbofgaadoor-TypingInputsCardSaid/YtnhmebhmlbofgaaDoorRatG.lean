/- Contracts of quotient and product. No conditions but those printed. -/
import Derived.Test.YtnhmebhmlbofgaaDoorRatF
import Derived.Test.YtnhmebhmlbofgaaDoorRegionTwo
namespace Go.Proofs.YtnhmebhmlbofgaaDoor
open Go.RowKit Frac

attribute [local go_sem] calmUpon
set_option linter.unusedSimpArgs false
set_option linter.unusedVariables false

theorem w_ways2 (s : Bool) (n d : Nat) :
    (((hi64 n : Int) != 0) = true ∧ wN s n d = 0 ∧ wD n d = 0 ∧ wE n d = 2) ∨
    (((hi64 n : Int) != 0) = false ∧ decide ((1000000000000000 : Int) < lo64 n) = true ∧ wN s n d = 0 ∧ wD n d = 0 ∧ wE n d = 2) ∨
    (((hi64 n : Int) != 0) = false ∧ decide ((1000000000000000 : Int) < lo64 n) = false ∧ ((hi64 d : Int) != 0) = true ∧ wN s n d = 0 ∧ wD n d = 0 ∧ wE n d = 2) ∨
    (((hi64 n : Int) != 0) = false ∧ decide ((1000000000000000 : Int) < lo64 n) = false ∧ ((hi64 d : Int) != 0) = false ∧ decide ((1000000000 : Int) < lo64 d) = true ∧ wN s n d = 0 ∧ wD n d = 0 ∧ wE n d = 2) ∨
    (((hi64 n : Int) != 0) = false ∧ decide ((1000000000000000 : Int) < lo64 n) = false ∧ ((hi64 d : Int) != 0) = false ∧ decide ((1000000000 : Int) < lo64 d) = false ∧ lo64 n ≤ 1000000000000000 ∧ lo64 d ≤ 1000000000 ∧ wN s n d = (if s = true then -(lo64 n : Int) else lo64 n) ∧ wD n d = lo64 d ∧ wE n d = 0) := by
  rcases w_ways s n d with h | h | h | h | ⟨a, b, c, d, e, f, g, h, i, j⟩
  · exact .inl h
  · exact .inr (.inl h)
  · exact .inr (.inr (.inl h))
  · exact .inr (.inr (.inr (.inl h)))
  · exact .inr (.inr (.inr (.inr ⟨a, b, c, d, e, f, by cases s <;> simp [g, h], i, j⟩)))

end Go.Proofs.YtnhmebhmlbofgaaDoor
