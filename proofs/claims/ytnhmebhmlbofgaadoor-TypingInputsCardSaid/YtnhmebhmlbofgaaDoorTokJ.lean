/- Contracts of All of the program and of the reference. No conditions but those printed. -/
import Derived.Test.YtnhmebhmlbofgaaDoorTokE
import Derived.Test.YtnhmebhmlbofgaaDoorCalT
import Derived.Test.YtnhmebhmlbofgaaDoorTokDec
import Derived.Lib.Bytes2
namespace Go.Proofs.YtnhmebhmlbofgaaDoor
open Go.RowKit Cal Str Tok Frac
attribute [local go_sem] calmUpon
set_option linter.unusedVariables false
set_option linter.unusedSimpArgs false

theorem rel_grown {w w' : World} (r : Rel w w') (row : Option Nat) : w.grownBy w' row := ⟨Below.os r, Below.tape r, Below.output r, Below.size r, fun k hk _ => Below.block r k hk⟩
theorem own_rel {w w' : World} {base : Nat} {e : TypeId} {size : Nat} {v : Value} {n : Nat} {xs : List Value} (h : w.ownsRow base e size v n xs) (r : Rel w w') : w'.ownsRow base e size v n xs :=
  h.kept (rel_grown r none) (by cases hv : v.ownBlock <;> simp)
theorem own_base {w wr : World} (h : Rel w wr) {v : Value} {n : Nat} {xs : List Value} {e : TypeId} {size : Nat} (ho : wr.ownsRow w.heap.size e size v n xs) : ∀ k, v.ownBlock = some k → w.heap.size ≤ k := fun k hk => (ho.lt k hk).1

end Go.Proofs.YtnhmebhmlbofgaaDoor
