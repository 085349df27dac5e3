/- Bundle of texts: each says at its head what it proves; no conditions but those printed. -/
import Derived.Test.YtkghmghjgikihaaGreatDoorEB19
import Derived.Laws.Tables
import Derived.Test.YtkghmghjgikihaaGreatDoorEB8
namespace Go.Proofs.YtkghmghjgikihaaGreatDoor
open Go.RowKit Cal Str Tok Frac Txt Tree
attribute [local go_sem] calmUpon
set_option linter.unusedVariables false
set_option linter.unusedSimpArgs false
theorem str_ret {a b : ByteArray} (h : a = b) : Ending.returned (.string a) = .returned (.string b) := by rw [h]
def TxK (f : Nat) (w : World) (g off i : Nat) (p : Nat → Int → ByteArray) : Prop :=
 ∃ (o a b d : Int) (s : ByteArray) (x : Value), Six w g (off + i * 6) o a b d s x ∧ (∀ l, (p i l).size ≤ 4200) ∧
  ∀ w' l, Rel w w' → 0 ≤ l → l ≤ 7 → Calls Tryz.prog f #[.agg #[.int .i64 o, .int .i64 a, .int .i64 b, .int .i64 d, .string s, x], .int .i64 l] w' (StrRes (p i l) w')
end Go.Proofs.YtkghmghjgikihaaGreatDoor
