/- Bundle of texts: each says at its head what it proves; no conditions but those printed. -/
import Derived.Test.YtlmclkaighlfaaaDoorMB15
import Derived.Test.YtlmclkaighlfaaaDoorMB7
import Derived.Test.YtlmclkaighlfaaaDoorMB9
import Derived.Test.YtlmclkaighlfaaaDoorMB0
namespace Go.Proofs.YtlmclkaighlfaaaDoor
set_option maxHeartbeats 16000000
open Go.RowKit Cal Str Tok Frac Txt Tree
attribute [local go_sem] calmUpon
set_option linter.unusedVariables false
set_option linter.unusedSimpArgs false
def wds : List (List UInt8) := [[118, 111, 108, 117, 110, 116, 97, 114, 121], [115, 101, 114, 118, 105, 99, 101], [117, 110, 101, 109, 112, 108, 111, 121, 101, 100], [115, 105, 99, 107], [99, 104, 105, 108, 100], [114, 101, 115, 105, 100, 101, 110, 99, 101], [111, 108, 100], [100, 105, 115, 97, 98, 105, 108, 105, 116, 121], [115, 117, 114, 118, 105, 118, 111, 114], [102, 97, 109, 105, 108, 121], [115, 105, 99, 107, 110, 101, 115, 115], [100, 111, 119, 110], [117, 112], [104, 97, 108, 102], [101, 118, 101, 110]]
def wd (j : Nat) : List UInt8 := wds.getD j []
def WdAt (W : World) (g : Nat) : Prop := g < W.heap.size ∧ ∀ j, j < 15 → W.cell? ⟨g, j, none⟩ = some (.string ⟨(wd j).toArray⟩)
theorem WdAt.rel {W X : World} {g : Nat} (h : WdAt W g) (r : Rel W X) : WdAt X g := ⟨r.lt h.1, fun j hj => r.cell (h.2 j hj)⟩
end Go.Proofs.YtlmclkaighlfaaaDoor
