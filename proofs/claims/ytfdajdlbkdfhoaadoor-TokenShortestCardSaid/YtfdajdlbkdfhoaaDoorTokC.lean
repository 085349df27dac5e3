/- Contracts of the reference's parts and Decimal. No conditions but those printed. -/
import Derived.Test.YtfdajdlbkdfhoaaDoorTokB
namespace Go.Proofs.YtfdajdlbkdfhoaaDoor
open Go.RowKit Cal Str Tok Frac
attribute [local go_sem] calmUpon
set_option linter.unusedVariables false
set_option linter.unusedSimpArgs false

end Go.Proofs.YtfdajdlbkdfhoaaDoor
