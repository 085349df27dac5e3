/- Contracts of Birthday and Age of the calendar and of the reference. No conditions but those printed. -/
import Derived.Test.YtfdajdlbkdfhoaaCalF
namespace Go.Proofs.Ytfdajdlbkdfhoaa
open Go.RowKit Cal

end Go.Proofs.Ytfdajdlbkdfhoaa
