/- Contracts of AddMonths, Birthday and Age of the calendar and of the reference. No conditions but those printed. -/
import Derived.Test.YtnhmebhmlbofgaaDoorCalE
namespace Go.Proofs.YtnhmebhmlbofgaaDoor
open Go.RowKit Cal

/-- May n months be added to day d? -/
def addB (d n : Int) : Bool := vdayB d && (decide (-2399 ≤ n) && decide (n ≤ 2399))
/-- Is there a day n months behind day d? -/
noncomputable def addOkB (d n : Int) : Bool := addB d n && vmonB (monI d + n)
/-- That day; 0 where there is none. -/
noncomputable def addN (d n : Int) : Int := if addOkB d n = true then mstN (monI d + n) + min (dD d) (mdyN (monI d + n)) - 1 else 0
end Go.Proofs.YtnhmebhmlbofgaaDoor
