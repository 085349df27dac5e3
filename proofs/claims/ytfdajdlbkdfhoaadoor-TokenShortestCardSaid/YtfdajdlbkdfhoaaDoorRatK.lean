/- Contracts of Neg, Floor, Ceil on both sides, and awake. No conditions but those printed. -/
import Derived.Test.YtfdajdlbkdfhoaaDoorRatJ
namespace Go.Proofs.YtfdajdlbkdfhoaaDoor
open Go.RowKit Frac

attribute [local go_sem] calmUpon
set_option linter.unusedSimpArgs false
set_option linter.unusedVariables false

theorem rvalid_is {n d : Int} {b : Bool} (h : validB n d = b) (w : World) (n0 : -9223372036854775808 ≤ n) (n1 : n ≤ 9223372036854775807) (d0 : -9223372036854775808 ≤ d) (d1 : d ≤ 9223372036854775807) :
    Calls Tryd.prog 17 #[.agg #[.int .i64 n, .int .i64 d]] w fun e w' => e = .returned (.bool b) ∧ Rel w w' := by
  have := rvalid_any n d w n0 n1 d0 d1
  rw [h] at this; exact this

end Go.Proofs.YtfdajdlbkdfhoaaDoor
