/- Bundle of texts: each says at its head what it proves; no conditions but those printed. -/
import Derived.Test.YtohdmpchbiabmaaDoorRows
import Derived.Test.YtohdmpchbiabmaaDoorNB4
import Derived.Lib.LaidTab
import Derived.Stop.LaidErr
import Derived.Stop.Joined
import Derived.LaidLaws
import Derived.LaidHandle
import Derived.LaidSub
import Derived.MakeChecks
/- What the listed variables give a walk, and a start that fits. No conditions but those printed. -/
namespace Go.Proofs.YtohdmpchbiabmaaDoor
open Go.RowKit Go.ChangeShapes
set_option linter.unusedVariables false
theorem gPow : Tryd.prog.globalNamed "internal/strconv.uint64pow10" = some 2 := by kernel_rfl
theorem gPowType : (Tryd.prog.globals[2]?).map (·.type) = some 185 := by kernel_rfl
theorem cellsU64 : Tryd.prog.cellsOf 104 = 1 := by kernel_rfl
theorem cellsPow : Tryd.prog.cellsOf 185 = 20 := by kernel_rfl
theorem plain3 (w : World) : laidMetH Tryd.prog Rows.syntaxNormalRow.laid w = laidMet Tryd.prog Rows.syntaxNormalRow.laid w := MakeChecks.laidMetH_plain _ _ _ (by kernel_rfl)
theorem tab_of {W : World} {r : List (String × DataW Unit)} (h : laidMet Tryd.prog (("internal/strconv.uint64pow10", Lib.tabData .u64 Lib.pow10Tab) :: r) W) : TabW W :=
 Lib.tabIs_of_head gPow gPowType Tryd.underlying185 Tryd.underlying104 cellsU64 cellsPow h
theorem tab3 {W : World} (h : laidMetH Tryd.prog Rows.syntaxNormalRow.laid W) : TabW W := by
 rw [plain3] at h
 exact tab_of h.tail.tail
/-! ### One start that fits -/
def numsOf : DataW Unit → List Value
 | .agg l => l.map fun d => match d with | .lit (.int k n) => Value.int k n | _ => .bool false
 | _ => []
def put (cs : Array Value) : Obj → Obj
 | .cells _ t frozen => .cells cs t frozen
 | o => o
noncomputable def laidWorld (os : Os) : World :=
 let w0 := World.holding Tryd.prog os ⟨#[], #[], []⟩
 { w0 with heap := ((w0.heap.modify 4 (put (numsOf Rows.laid_math_bits_deBruijn32tab).toArray)).modify 5 (put (numsOf Rows.laid_math_bits_deBruijn64tab).toArray)).modify 2 (put (numsOf Rows.laid_internal_strconv_uint64pow10).toArray) }
theorem met3 (os : Os) (args : Array Value) : laidMetH Tryd.prog Rows.syntaxNormalRow.laid ((laidWorld os).forCall (fun _ _ => 0) ⟨#[], args, []⟩).memory := by
 rw [plain3]
 exact laidMet_of_run' 8 (by kernel_rfl) (by kernel_rfl)
end Go.Proofs.YtohdmpchbiabmaaDoor
