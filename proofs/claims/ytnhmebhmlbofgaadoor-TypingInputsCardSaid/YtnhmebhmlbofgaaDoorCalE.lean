/- Contracts of Month, MonthStart, MonthDays, Weekday, AddMonths, Birthday of the calendar and of the reference. No conditions but those printed. -/
import Derived.Test.YtnhmebhmlbofgaaDoorCalB
namespace Go.Proofs.YtnhmebhmlbofgaaDoor
open Go.RowKit Cal

/-- The month of a day; -1 where d is no day. -/
noncomputable def monI (d : Int) : Int := if vdayB d = true then (monOf d : Int) else -1
/-- The first day of a month; 0 where m is no month. -/
def mstN (m : Int) : Int := if vmonB m = true then msum m.toNat else 0
/-- The days of a month; 0 where m is no month. -/
def mdyN (m : Int) : Int := if vmonB m = true then nlen m.toNat else 0
end Go.Proofs.YtnhmebhmlbofgaaDoor
