/- Contracts of Format, number and Parse of the calendar and of the reference. No conditions but those printed. -/
import Derived.Test.YtnhmebhmlbofgaaDoorCalS
namespace Go.Proofs.YtnhmebhmlbofgaaDoor
open Go.RowKit Cal Str

/-- The value of a text of digits; 0 where it is none. -/
def numV (l : List UInt8) : Int := if allD l = true then val l else 0
theorem numV_no {l : List UInt8} (h : allD l = false) : numV l = 0 := by unfold numV; rw [if_neg (by simp [h])]
theorem numV_yes {l : List UInt8} (h : allD l = true) : numV l = val l := by unfold numV; rw [if_pos h]
/-- The same of a string. -/
def strV (s : ByteArray) : Int := numV s.data.toList
def strB (s : ByteArray) : Bool := allD s.data.toList
end Go.Proofs.YtnhmebhmlbofgaaDoor
