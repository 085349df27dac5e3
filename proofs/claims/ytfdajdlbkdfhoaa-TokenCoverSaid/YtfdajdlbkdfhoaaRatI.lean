/- Contracts of Valid and ValidFraction. No conditions but those printed. -/
import Derived.Test.YtfdajdlbkdfhoaaRatH
namespace Go.Proofs.Ytfdajdlbkdfhoaa
open Go.RowKit Frac

attribute [local go_sem] calmUpon
set_option linter.unusedSimpArgs false
set_option linter.unusedVariables false

end Go.Proofs.Ytfdajdlbkdfhoaa
