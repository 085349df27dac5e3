/- Bundle of texts: each says at its head what it proves; no conditions but those printed. -/
import Derived.Test.YtkghmghjgikihaaGreatDoorTB22
import Derived.Test.YtkghmghjgikihaaGreatDoorTB14
/- The text of a valid tree is parsed to the same tree, with parentheses around it, too. No program in sight; no conditions but those printed. -/
namespace Go.Proofs.YtkghmghjgikihaaGreatDoor
open Go.RowKit Cal Str Tok Frac Txt Tree
set_option linter.unusedVariables false
theorem valid_of {t : Ex} (h : t.valid = true) : t.form = true ∧ t.size ≤ 60 := by
 unfold Ex.valid at h
 simp only [Bool.and_eq_true, decide_eq_true_eq] at h
 exact ⟨h.2.2, h.2.1⟩
end Go.Proofs.YtkghmghjgikihaaGreatDoor
