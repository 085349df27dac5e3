/- Bundle of texts: each says at its head what it proves; no conditions but those printed. -/
import Derived.Test.YtkghmghjgikihaaGreatDoorEB22
import Derived.Test.YtkghmghjgikihaaGreatDoorEB14
namespace Go.Proofs.YtkghmghjgikihaaGreatDoor.Tree
open Go.RowKit Cal Str Tok Frac Txt
set_option linter.unusedVariables false
theorem binT_of {tk : List Tk} {s : Pt} {l : List (List UInt8 × Int)} {Q : Int → Prop} (hl : ∀ p ∈ l, Q p.2) (h : binO tk s l = true) : Q (binT tk s l) := by
 induction l with
 | nil => cases h
 | cons p l ih =>
  simp only [binO] at h;simp only [binT];split
  ·exact hl p (by simp)
  ·rename_i ha;rw [if_neg ha] at h;exact ih (fun q hq => hl q (by simp [hq])) h
theorem rel_lev {tk : List Tk} {s : Pt} (h : binO tk s relL = true) : 7 ≤ binT tk s relL ∧ binT tk s relL ≤ 18 ∧ levI (binT tk s relL) = 4 := binT_of (Q := fun o => 7 ≤ o ∧ o ≤ 18 ∧ levI o = 4) (by decide) h
theorem sum_lev {tk : List Tk} {s : Pt} (h : binO tk s sumL = true) : 7 ≤ binT tk s sumL ∧ binT tk s sumL ≤ 18 ∧ levI (binT tk s sumL) = 5 := binT_of (Q := fun o => 7 ≤ o ∧ o ≤ 18 ∧ levI o = 5) (by decide) h
theorem mul_lev {tk : List Tk} {s : Pt} (h : binO tk s mulL = true) : 7 ≤ binT tk s mulL ∧ binT tk s mulL ≤ 18 ∧ levI (binT tk s mulL) = 6 := binT_of (Q := fun o => 7 ≤ o ∧ o ≤ 18 ∧ levI o = 6) (by decide) h
theorem mm_op {tk : List Tk} {s : Pt} (h : binO tk s mmL = true) : binT tk s mmL = 19 ∨ binT tk s mmL = 20 := binT_of (Q := fun o => o = 19 ∨ o = 20) (by decide) h
/-! The bytes. -/
def c40 (l : List UInt8) : Nat := l.count 40
def c41 (l : List UInt8) : Nat := l.count 41
end Go.Proofs.YtkghmghjgikihaaGreatDoor.Tree
