/- Lemmas, each as it is printed; no conditions but those printed. -/
import Derived.Test.YthmlhheceihcbaaGreatDoorPB7
namespace Go.Proofs.YthmlhheceihcbaaGreatDoor
set_option maxHeartbeats 16000000
open Go.RowKit Cal Str Tok Frac Txt Tree Tryz
attribute [local go_sem] calmUpon
set_option linter.unusedVariables false
set_option linter.unusedSimpArgs false
def EnvAt (w : World) (k : Nat) (nm : Nat -> ByteArray) (dm : Nat -> Int) (ad : Option Addr) : Prop := 0 < k -> ∃ g off, ad = some ⟨g, off, none⟩ /\ g < w.heap.size /\ ∀ i, i < k ->
 w.cell? ⟨g, off + i * 2, none⟩ = some (.string (nm i)) /\ w.cell? ⟨g, off + i * 2 + 1, none⟩ = some (.int .i64 (dm i)) /\ (nm i).size <= 140737488355328 /\ -9223372036854775808 <= dm i /\ dm i <= 9223372036854775807
end Go.Proofs.YthmlhheceihcbaaGreatDoor
