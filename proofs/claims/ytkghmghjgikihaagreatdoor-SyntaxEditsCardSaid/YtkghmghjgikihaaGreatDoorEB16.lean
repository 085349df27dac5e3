/- Bundle of texts: each says at its head what it proves; no conditions but those printed. -/
import Derived.Test.YtkghmghjgikihaaGreatDoorRows
import Derived.Test.YtkghmghjgikihaaGreatDoorEB4
import Derived.Lib.LaidTab
import Derived.Stop.LaidErr
import Derived.Stop.Joined
import Derived.LaidLaws
import Derived.LaidHandle
import Derived.LaidSub
import Derived.MakeChecks
namespace Go.Proofs.YtkghmghjgikihaaGreatDoor
open Go.RowKit Go.ChangeShapes
set_option linter.unusedVariables false
theorem gPow : Tryz.prog.globalNamed "internal/strconv.uint64pow10" = some 1 := by kernel_rfl
theorem gPowType : (Tryz.prog.globals[1]?).map (·.type) = some 223 := by kernel_rfl
theorem cellsU64 : Tryz.prog.cellsOf 186 = 1 := by kernel_rfl
theorem cellsPow : Tryz.prog.cellsOf 223 = 20 := by kernel_rfl
theorem plain3 (w : World) : laidMetH Tryz.prog Rows.syntaxTreesRow.laid w = laidMet Tryz.prog Rows.syntaxTreesRow.laid w := MakeChecks.laidMetH_plain _ _ _ (by kernel_rfl)
theorem tab_of {W : World} {r : List (String × DataW Unit)} (h : laidMet Tryz.prog (("internal/strconv.uint64pow10", Lib.tabData .u64 Lib.pow10Tab) :: r) W) : TabW W :=
 Lib.tabIs_of_head gPow gPowType Tryz.underlying223 Tryz.underlying186 cellsU64 cellsPow h
theorem tab3 {W : World} (h : laidMetH Tryz.prog Rows.syntaxTreesRow.laid W) : TabW W := by
 rw [plain3] at h;exact tab_of h.tail.tail
/-! ### One start that fits -/
def numsOf : DataW Unit → List Value
 | .agg l => l.map fun d => match d with | .lit (.int k n) => Value.int k n | _ => .bool false
 | _ => []
def put (cs : Array Value) : Obj → Obj
 | .cells _ t frozen => .cells cs t frozen
 | o => o
noncomputable def laidWorld (os : Os) : World :=
 let w0 := World.holding Tryz.prog os ⟨#[], #[], []⟩
 { w0 with heap := ((w0.heap.modify 4 (put (numsOf Rows.laid_math_bits_deBruijn32tab).toArray)).modify 5 (put (numsOf Rows.laid_math_bits_deBruijn64tab).toArray)).modify 1 (put (numsOf Rows.laid_internal_strconv_uint64pow10).toArray) }
theorem met3 (os : Os) (args : Array Value) : laidMetH Tryz.prog Rows.syntaxTreesRow.laid ((laidWorld os).forCall (fun _ _ => 0) ⟨#[], args, []⟩).memory := by
 rw [plain3];exact laidMet_of_run' 8 (by kernel_rfl) (by kernel_rfl)
end Go.Proofs.YtkghmghjgikihaaGreatDoor
