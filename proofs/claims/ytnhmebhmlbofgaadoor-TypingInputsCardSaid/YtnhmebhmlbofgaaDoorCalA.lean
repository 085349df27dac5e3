/- Contracts of the calendar's small functions, for every argument that the statements hand them. No conditions but those printed. -/
import Derived.Test.YtnhmebhmlbofgaaDoorProg
import Derived.WalkKit
import Derived.WalkSpells
import Derived.WalkLawsBesides
import Derived.Lib.Hide
import Derived.Deep.QuietTactic
import Derived.BigQuiet
import Derived.Test.YtnhmebhmlbofgaaDoorCalPlain
namespace Go.Proofs.YtnhmebhmlbofgaaDoor
open Go.RowKit Cal

theorem ret_b {a b : Bool} (h : a = b) : Ending.returned (.bool a) = .returned (.bool b) := by rw [h]

/-- A month's number is one. -/
def vmonB (d : Int) : Bool := decide (0 ≤ d ∧ d ≤ 2399)

end Go.Proofs.YtnhmebhmlbofgaaDoor
