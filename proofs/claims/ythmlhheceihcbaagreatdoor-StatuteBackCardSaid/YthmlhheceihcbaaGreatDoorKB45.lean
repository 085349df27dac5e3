/- Lemmas, each as it is printed; no conditions but those printed. -/
import Derived.Test.YthmlhheceihcbaaGreatDoorKB44
import Derived.Test.YthmlhheceihcbaaGreatDoorKB38
namespace Go.Proofs.YthmlhheceihcbaaGreatDoor
set_option maxHeartbeats 16000000
open Go.RowKit Cal Str Tok Frac Txt Tree Go.Proofs.Tryz
set_option linter.unusedVariables false
theorem valid_of {t : Ex} (h : t.valid = true) : t.form = true /\ t.size <= 60 := by
 unfold Ex.valid at h;simp only [Bool.and_eq_true, decide_eq_true_eq] at h;exact ⟨h.2.2, h.2.1⟩
end Go.Proofs.YthmlhheceihcbaaGreatDoor
namespace Go.Proofs.YthmlhheceihcbaaGreatDoor.Tree
set_option maxHeartbeats 16000000
open Go.RowKit Cal Str Tok Frac Txt Go.Proofs.Tryz
set_option linter.unusedVariables false
def ndP (op : Int) (p : Nat -> Int -> Nat) : Nat :=
 if op = 1 then 0 else if op = 2 then 0 else if op = 3 then 1 else if op = 4 then p 0 7 else if op = 5 then p 0 3
 else if op = 6 then 1 + p 0 0 else if op = 19 then 1 + p 0 0 + p 1 0 else if op = 20 then 1 + p 0 0 + p 1 0 else if op = 21 then p 0 0 + p 1 0 + p 2 0
 else p 0 (if levI op = 4 then 5 else levI op) + p 1 (levI op + 1)
def Ex.pn : Ex -> Nat
 | .no => 0
 | .mk op a b d s n kid => ndP op fun i l => (kid i).pn + (if levI (kid i).op < l then 1 else 0)
def Ex.pl (t : Ex) (l : Int) : Nat := Ex.pn t + (if levI t.op < l then 1 else 0)
end Go.Proofs.YthmlhheceihcbaaGreatDoor.Tree
