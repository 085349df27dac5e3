/- Contracts of Age of the calendar and of the reference, and the plain facts on ages. No conditions but those printed. -/
import Derived.Test.YtfdajdlbkdfhoaaDoorCalG
namespace Go.Proofs.YtfdajdlbkdfhoaaDoor
open Go.RowKit Cal

end Go.Proofs.YtfdajdlbkdfhoaaDoor
