/- Contracts of Birthday and Age of the calendar and of the reference. No conditions but those printed. -/
import Derived.Test.YtfdajdlbkdfhoaaDoorCalF
namespace Go.Proofs.YtfdajdlbkdfhoaaDoor
open Go.RowKit Cal

end Go.Proofs.YtfdajdlbkdfhoaaDoor
