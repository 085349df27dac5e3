/- Contracts of the reference's start, monthAt, Day and Date and of the calendar's Date. No conditions but those printed. -/
import Derived.Test.YtfdajdlbkdfhoaaDoorCalB
namespace Go.Proofs.YtfdajdlbkdfhoaaDoor
open Go.RowKit Cal

end Go.Proofs.YtfdajdlbkdfhoaaDoor
