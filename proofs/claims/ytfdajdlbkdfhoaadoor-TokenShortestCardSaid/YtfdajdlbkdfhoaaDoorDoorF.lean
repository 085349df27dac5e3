/- What the listed variables give a walk, and a start that fits. No conditions but those printed. -/
import Derived.Test.YtfdajdlbkdfhoaaDoorRows
import Derived.Test.YtfdajdlbkdfhoaaDoorDoorA
import Derived.Lib.LaidTab
import Derived.Stop.LaidErr
import Derived.Stop.Joined
import Derived.LaidLaws
import Derived.LaidHandle
import Derived.LaidSub
import Derived.MakeChecks
namespace Go.Proofs.YtfdajdlbkdfhoaaDoor
open Go.RowKit Go.ChangeShapes
set_option linter.unusedVariables false

theorem gPow : Tryd.prog.globalNamed "internal/strconv.uint64pow10" = some 5 := by kernel_rfl
theorem gPowType : (Tryd.prog.globals[5]?).map (·.type) = some 105 := by kernel_rfl
theorem cellsU64 : Tryd.prog.cellsOf 44 = 1 := by kernel_rfl
theorem cellsPow : Tryd.prog.cellsOf 105 = 20 := by kernel_rfl
theorem gSyn : Tryd.prog.globalNamed "strconv.ErrSyntax" = some 3 := by kernel_rfl
theorem gSynType : (Tryd.prog.globals[3]?).map (·.type) = some 61 := by kernel_rfl
theorem gRng : Tryd.prog.globalNamed "strconv.ErrRange" = some 4 := by kernel_rfl
theorem gRngType : (Tryd.prog.globals[4]?).map (·.type) = some 61 := by kernel_rfl
theorem cellsErr : Tryd.prog.cellsOf 118 = 1 := by kernel_rfl
theorem cellsStr : Tryd.prog.cellsOf 9 = 1 := by kernel_rfl
theorem starErr : "*" ++ "errors.errorString" = "*errors.errorString" := by decide
theorem rowErr (u : TypeId) (h : Tryd.prog.typeName? 3 u = some "*errors.errorString") : u = 116 :=
  typeName_ptr_named (nm := "errors.errorString") (by rw [starErr]; kernel_rfl) (by kernel_rfl) (by decide) u (by rw [starErr]; exact h)

theorem plain3 (w : World) : laidMetH Tryd.prog Rows.tokenShortestRow.laid w = laidMet Tryd.prog Rows.tokenShortestRow.laid w := MakeChecks.laidMetH_plain _ _ _ (by kernel_rfl)
theorem plain5 (w : World) : laidMetH Tryd.prog Rows.rationalTextsRow.laid w = laidMet Tryd.prog Rows.rationalTextsRow.laid w := MakeChecks.laidMetH_plain _ _ _ (by kernel_rfl)

theorem tab_of {W : World} {r : List (String × DataW Unit)} (h : laidMet Tryd.prog (("internal/strconv.uint64pow10", Lib.tabData .u64 Lib.pow10Tab) :: r) W) : TabW W :=
  Lib.tabIs_of_head gPow gPowType Tryd.underlying105 Tryd.underlying44 cellsU64 cellsPow h
theorem tab3 {W : World} (h : laidMetH Tryd.prog Rows.tokenShortestRow.laid W) : TabW W := by
  rw [plain3] at h
  exact tab_of h.tail.tail
theorem tab5 {W : World} (h : laidMetH Tryd.prog Rows.rationalTextsRow.laid W) : TabW W := by
  rw [plain5] at h
  exact tab_of h.tail.tail
theorem err5 {W : World} (h : laidMetH Tryd.prog Rows.rationalTextsRow.laid W) : ErrW W := by
  rw [plain5] at h
  obtain ⟨a1, s1, h1, -, -, -⟩ := laid_sentinel h.tail.tail.tail gRng gRngType Tryd.underlying61 rowErr Tryd.underlying116 Tryd.underlying118 rfl rfl Tryd.underlying9 cellsErr cellsStr
  obtain ⟨a0, s0, h0, -, -, -⟩ := laid_sentinel h.tail.tail.tail.tail gSyn gSynType Tryd.underlying61 rowErr Tryd.underlying116 Tryd.underlying118 rfl rfl Tryd.underlying9 cellsErr cellsStr
  exact ⟨⟨_, _, h0⟩, ⟨_, _, h1⟩⟩

/-! ### One start that fits -/
/-- The numbers of a row of integers. -/
def numsOf : DataW Unit → List Value
  | .agg l => l.map fun d => match d with | .lit (.int k n) => Value.int k n | _ => .bool false
  | _ => []
def errB : ByteArray := { data := #[105, 110, 118, 97, 108, 105, 100, 32, 115, 121, 110, 116, 97, 120] }
def rngB : ByteArray := { data := #[118, 97, 108, 117, 101, 32, 111, 117, 116, 32, 111, 102, 32, 114, 97, 110, 103, 101] }
noncomputable def low : Nat := (World.holding Tryd.prog default ⟨#[], #[], []⟩).heap.size
def put (cs : Array Value) : Obj → Obj
  | .cells _ t frozen => .cells cs t frozen
  | o => o
noncomputable def laidWorld (os : Os) : World :=
  let w0 := World.holding Tryd.prog os ⟨#[.cells #[.string errB] 118, .cells #[.string rngB] 118], #[], []⟩
  { w0 with heap := ((((w0.heap.modify 6 (put (numsOf Rows.laid_math_bits_deBruijn32tab).toArray)).modify 7 (put (numsOf Rows.laid_math_bits_deBruijn64tab).toArray)).modify 5 (put (numsOf Rows.laid_internal_strconv_uint64pow10).toArray)).modify 3 (put #[.iface 116 (.pointer (some ⟨low, 0, none⟩))])).modify 4 (put #[.iface 116 (.pointer (some ⟨low + 1, 0, none⟩))]) }
theorem met3 (os : Os) (args : Array Value) : laidMetH Tryd.prog Rows.tokenShortestRow.laid ((laidWorld os).forCall (fun _ _ => 0) ⟨#[], args, []⟩).memory := by
  rw [plain3]
  exact laidMet_of_run' 8 (by kernel_rfl) (by kernel_rfl)
theorem met5 (os : Os) (args : Array Value) : laidMetH Tryd.prog Rows.rationalTextsRow.laid ((laidWorld os).forCall (fun _ _ => 0) ⟨#[], args, []⟩).memory := by
  rw [plain5]
  exact laidMet_of_run' 8 (by kernel_rfl) (by kernel_rfl)

end Go.Proofs.YtfdajdlbkdfhoaaDoor
