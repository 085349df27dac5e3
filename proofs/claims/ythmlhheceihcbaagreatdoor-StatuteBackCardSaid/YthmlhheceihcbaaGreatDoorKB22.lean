/- Lemmas, each as it is printed; no conditions but those printed. -/
import Derived.Test.YthmlhheceihcbaaGreatDoorKB21
namespace Go.Proofs.YthmlhheceihcbaaGreatDoor
set_option maxHeartbeats 16000000
open Go.RowKit Cal Str Tok Frac Txt Tree Go.Proofs.Tryz
attribute [local go_sem] calmUpon
set_option linter.unusedVariables false
set_option linter.unusedSimpArgs false
theorem ti_le : tz prog 61 = some (some (.agg #[.string ByteArray.empty, .int .i64 0, .int .i64 0, .int .i64 0, .int .i64 0, .string ByteArray.empty, .slice none 0 0]), 7, 88) := by kernel_rfl
theorem ti_re : tz prog 66 = some (some (.agg #[.int .i64 0, .int .i64 0, .int .i64 0, .int .i64 0, .int .i64 0, .string ByteArray.empty, .slice none 0 0]), 7, 80) := by kernel_rfl
theorem ti_gr : tz prog 64 = some (some (.agg #[.int .i64 0, .int .i64 0, .int .i64 0, .int .i64 0, .int .i64 0, .string ByteArray.empty, .slice none 0 0, .int .i64 0, .int .i64 0, .int .i64 0, .int .i64 0, .string ByteArray.empty, .slice none 0 0]), 13, 152) := by kernel_rfl
theorem ti_cr : tz prog 51 = some (some (.agg #[.int .i64 0, .int .i64 0]), 2, 16) := by kernel_rfl
theorem ti_ix : tz prog 56 = some (some (.agg #[.int .i64 0, .int .i64 0, .int .i64 0]), 3, 24) := by kernel_rfl
theorem i64z : I64 0 := ⟨by decide, by decide⟩
section
variable {b G : Nat} {tk : List Tk} {E : Int} (hT : TksOk tk) (hH : TkHd tk) {wa W : World} {BO N : Nat} {m : VerM} {s : Pt} (hX : RX b G tk E wa s W) (hC : ClS b wa W BO N m) (hN : N <= 8000)
end
end Go.Proofs.YthmlhheceihcbaaGreatDoor
