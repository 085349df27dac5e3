/- Contracts of Day, Date, Month, MonthStart, MonthDays and Weekday of the calendar and of the reference. No conditions but those printed. -/
import Derived.Test.YtfdajdlbkdfhoaaDoorCalC
namespace Go.Proofs.YtfdajdlbkdfhoaaDoor
open Go.RowKit Cal

theorem below_seq {w w1 w2 : World} (h : Below w.heap.size w w1) (h2 : Below w1.heap.size w1 w2) : Below w.heap.size w w2 := h.trans (h2.mono h.size)

end Go.Proofs.YtfdajdlbkdfhoaaDoor
