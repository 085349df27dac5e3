/- Lemmas, each as it is printed; no conditions but those printed. -/
import Derived.Test.YthmlhheceihcbaaGreatDoorKB7
import Derived.Lib.Hide
import Derived.RangeFuncNested
import Derived.RangeFuncLeaves
import Derived.RangeFuncBox
import Derived.Shelf.Abstract
import Derived.WalkKit
import Derived.OwnWalkIn
import Derived.TacticsInMore
import Derived.LoopNIn
import Derived.LoopIn
import Derived.Test.YthmlhheceihcbaaGreatDoorProg
namespace Go.Proofs.YthmlhheceihcbaaGreatDoor
set_option maxHeartbeats 16000000
open Go.RowKit Cal Str Tok Frac Txt Tree Tryz
attribute [local go_sem] calmUpon
set_option linter.unusedVariables false
set_option linter.unusedSimpArgs false
def EnvAt (w : World) (k : Nat) (nm : Nat -> ByteArray) (dm : Nat -> Int) (ad : Option Addr) : Prop := 0 < k -> ∃ g off, ad = some ⟨g, off, none⟩ /\ g < w.heap.size /\ ∀ i, i < k ->
 w.cell? ⟨g, off + i * 2, none⟩ = some (.string (nm i)) /\ w.cell? ⟨g, off + i * 2 + 1, none⟩ = some (.int .i64 (dm i)) /\ (nm i).size <= 140737488355328 /\ -9223372036854775808 <= dm i /\ dm i <= 9223372036854775807
end Go.Proofs.YthmlhheceihcbaaGreatDoor
namespace Go.Proofs.YthmlhheceihcbaaGreatDoor
set_option maxHeartbeats 16000000
open Go.RowKit Go.Shelf Tryz
attribute [local go_sem] Oper.semAt_some
set_option linter.unusedVariables false
def BBox (W : World) (B : Nat) (s : ByteArray) (d : Int) : Prop := W.heap[B]? = some (.cells #[.string s, .int .i64 d] 121 (0, 0))
theorem BBox.kept {W W' : World} {row : Option Nat} {B : Nat} {s : ByteArray} {d : Int} (h : BBox W B s d) (hg : W.grownBy W' row) (hne : some B ≠ row) : BBox W' B s d := (hg.block B (Array.getElem?_eq_some_iff.1 h).1 hne).trans h
theorem BBox.c0 {W : World} {B : Nat} {s : ByteArray} {d : Int} (h : BBox W B s d) : W.cell? ⟨B, 0, none⟩ = some (.string s) := by simp [World.cell?, show W.heap[B]? = _ from h]
theorem BBox.c1 {W : World} {B : Nat} {s : ByteArray} {d : Int} (h : BBox W B s d) : W.cell? ⟨B, 1, none⟩ = some (.int .i64 d) := by simp [World.cell?, show W.heap[B]? = _ from h]
end Go.Proofs.YthmlhheceihcbaaGreatDoor
