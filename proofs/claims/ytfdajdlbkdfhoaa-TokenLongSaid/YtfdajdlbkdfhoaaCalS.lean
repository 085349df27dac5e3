/- Contracts of digits, number, Format and Parse of the calendar and of the reference. No conditions but those printed. -/
import Derived.Test.YtfdajdlbkdfhoaaCalH
import Derived.Test.YtfdajdlbkdfhoaaStrPlain
import Derived.Handy
namespace Go.Proofs.Ytfdajdlbkdfhoaa
open Go.RowKit Cal Str

end Go.Proofs.Ytfdajdlbkdfhoaa
