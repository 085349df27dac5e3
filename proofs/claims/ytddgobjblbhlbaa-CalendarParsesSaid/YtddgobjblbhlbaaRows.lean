/-
  No cell of these rows narrows 'for every input' (looked for: loops, veiled, ifaces, maps, wideKeys, modest, calm, conditions, laid).
  DERIVED. THE GIVEN ROWS OF THIS SEAT. 14 by the template 'for every input the law returns true; each argument reads behind the call as it read before'; 0 by the template 'total and deterministic' (their statements: YtddgobjblbhlbaaTotals.lean).
  GIVEN WITH THE SEED: the statements are not yours to turn. If you find one false, say at which input.
  Laid BY PROGRAM, IN A SANDBOX (cutbox-rows.mjs): the forced cells as the released guide's own fill.sh prints them over the translation b36e2ffa50df74f5… (all of the seat's roots in one cut). By AI agents, Wed Nov 11 2026. No macro, syntax, notation, axiom, sorry.
-/
import Derived.Test.YtddgobjblbhlbaaChecked
import GoSem.Claim
import GoSem.ClaimJoined
import GoSem.ClaimMapViews
import Derived.JoinedTies
import Derived.KernelRfl
namespace Go.Proofs.Ytddgobjblbhlbaa
/- THE CELL 'sum', in the pinned program and in every row, IS THE sha256 OF THE DUMP (.gsa) THAT YtddgobjblbhlbaaProg.lean LOADS. Nothing in Lean hashes anything: it is a label: what it is worth is what the hold of that sum in a sandbox is worth. -/
noncomputable def Try.pinned : Pinned := { name := "ytddgobjblbhlbaa", sum := "b36e2ffa50df74f56cdc337292bcc6c52822ddbffc8439c72e8e79a99f63af67", checked := Try.checked }
namespace Rows
def none {H : Type} : Left H := { results := [], args := [] }

/-- 'pensionlaw1.CalendarDays': WHATEVER THE INPUT: true; the input reads as it did. -/
def calendarDaysSpec : ChangeSpec := { name := "calendarDays", fn := fun _ => fun
  | [d1, d2, d3, d4] => { results := [.lit (.bool true)], args := [d1, d2, d3, d4] }
  | _ => none }
def calendarDaysRow : OpenClaim := { program := "ytddgobjblbhlbaa", sum := "b36e2ffa50df74f56cdc337292bcc6c52822ddbffc8439c72e8e79a99f63af67", func := "pension/pensionlaw1.CalendarDays", spec := "calendarDays", apart := false }
def CalendarDaysSaid : Prop := calendarDaysRow.holds Try.pinned (OpenSpec.ofChange calendarDaysSpec)

/-- ITS FALSE NEIGHBOUR: 'it returns false'. Refute it at one input. -/
def calendarDaysWrong : ChangeSpec := { name := "calendarDays", fn := fun _ => fun
  | [d1, d2, d3, d4] => { results := [.lit (.bool false)], args := [d1, d2, d3, d4] }
  | _ => none }
def CalendarDaysWrongFalsely : Prop := calendarDaysRow.holds Try.pinned (OpenSpec.ofChange calendarDaysWrong)

/-- 'pensionlaw1.CalendarOrder': WHATEVER THE INPUT: true; the input reads as it did. -/
def calendarOrderSpec : ChangeSpec := { name := "calendarOrder", fn := fun _ => fun
  | [d1, d2, d3, d4, d5, d6] => { results := [.lit (.bool true)], args := [d1, d2, d3, d4, d5, d6] }
  | _ => none }
def calendarOrderRow : OpenClaim := { program := "ytddgobjblbhlbaa", sum := "b36e2ffa50df74f56cdc337292bcc6c52822ddbffc8439c72e8e79a99f63af67", func := "pension/pensionlaw1.CalendarOrder", spec := "calendarOrder", apart := false }
def CalendarOrderSaid : Prop := calendarOrderRow.holds Try.pinned (OpenSpec.ofChange calendarOrderSpec)

/-- ITS FALSE NEIGHBOUR: 'it returns false'. Refute it at one input. -/
def calendarOrderWrong : ChangeSpec := { name := "calendarOrder", fn := fun _ => fun
  | [d1, d2, d3, d4, d5, d6] => { results := [.lit (.bool false)], args := [d1, d2, d3, d4, d5, d6] }
  | _ => none }
def CalendarOrderWrongFalsely : Prop := calendarOrderRow.holds Try.pinned (OpenSpec.ofChange calendarOrderWrong)

/-- 'pensionlaw1.CalendarWeeks': WHATEVER THE INPUT: true; the input reads as it did. -/
def calendarWeeksSpec : ChangeSpec := { name := "calendarWeeks", fn := fun _ => fun
  | [d] => { results := [.lit (.bool true)], args := [d] }
  | _ => none }
def calendarWeeksRow : OpenClaim := { program := "ytddgobjblbhlbaa", sum := "b36e2ffa50df74f56cdc337292bcc6c52822ddbffc8439c72e8e79a99f63af67", func := "pension/pensionlaw1.CalendarWeeks", spec := "calendarWeeks", apart := false }
def CalendarWeeksSaid : Prop := calendarWeeksRow.holds Try.pinned (OpenSpec.ofChange calendarWeeksSpec)

/-- ITS FALSE NEIGHBOUR: 'it returns false'. Refute it at one input. -/
def calendarWeeksWrong : ChangeSpec := { name := "calendarWeeks", fn := fun _ => fun
  | [d] => { results := [.lit (.bool false)], args := [d] }
  | _ => none }
def CalendarWeeksWrongFalsely : Prop := calendarWeeksRow.holds Try.pinned (OpenSpec.ofChange calendarWeeksWrong)

/-- 'pensionlaw1.CalendarDates': WHATEVER THE INPUT: true; the input reads as it did. -/
def calendarDatesSpec : ChangeSpec := { name := "calendarDates", fn := fun _ => fun
  | [d] => { results := [.lit (.bool true)], args := [d] }
  | _ => none }
def calendarDatesRow : OpenClaim := { program := "ytddgobjblbhlbaa", sum := "b36e2ffa50df74f56cdc337292bcc6c52822ddbffc8439c72e8e79a99f63af67", func := "pension/pensionlaw1.CalendarDates", spec := "calendarDates", apart := false }
def CalendarDatesSaid : Prop := calendarDatesRow.holds Try.pinned (OpenSpec.ofChange calendarDatesSpec)

/-- ITS FALSE NEIGHBOUR: 'it returns false'. Refute it at one input. -/
def calendarDatesWrong : ChangeSpec := { name := "calendarDates", fn := fun _ => fun
  | [d] => { results := [.lit (.bool false)], args := [d] }
  | _ => none }
def CalendarDatesWrongFalsely : Prop := calendarDatesRow.holds Try.pinned (OpenSpec.ofChange calendarDatesWrong)

/-- 'pensionlaw1.CalendarBack': WHATEVER THE INPUT: true; the input reads as it did. -/
def calendarBackSpec : ChangeSpec := { name := "calendarBack", fn := fun _ => fun
  | [d1, d2, d3, d4] => { results := [.lit (.bool true)], args := [d1, d2, d3, d4] }
  | _ => none }
def calendarBackRow : OpenClaim := { program := "ytddgobjblbhlbaa", sum := "b36e2ffa50df74f56cdc337292bcc6c52822ddbffc8439c72e8e79a99f63af67", func := "pension/pensionlaw1.CalendarBack", spec := "calendarBack", apart := false }
def CalendarBackSaid : Prop := calendarBackRow.holds Try.pinned (OpenSpec.ofChange calendarBackSpec)

/-- ITS FALSE NEIGHBOUR: 'it returns false'. Refute it at one input. -/
def calendarBackWrong : ChangeSpec := { name := "calendarBack", fn := fun _ => fun
  | [d1, d2, d3, d4] => { results := [.lit (.bool false)], args := [d1, d2, d3, d4] }
  | _ => none }
def CalendarBackWrongFalsely : Prop := calendarBackRow.holds Try.pinned (OpenSpec.ofChange calendarBackWrong)

/-- 'pensionlaw1.CalendarBirthdays': WHATEVER THE INPUT: true; the input reads as it did. -/
def calendarBirthdaysSpec : ChangeSpec := { name := "calendarBirthdays", fn := fun _ => fun
  | [d1, d2] => { results := [.lit (.bool true)], args := [d1, d2] }
  | _ => none }
def calendarBirthdaysRow : OpenClaim := { program := "ytddgobjblbhlbaa", sum := "b36e2ffa50df74f56cdc337292bcc6c52822ddbffc8439c72e8e79a99f63af67", func := "pension/pensionlaw1.CalendarBirthdays", spec := "calendarBirthdays", apart := false }
def CalendarBirthdaysSaid : Prop := calendarBirthdaysRow.holds Try.pinned (OpenSpec.ofChange calendarBirthdaysSpec)

/-- ITS FALSE NEIGHBOUR: 'it returns false'. Refute it at one input. -/
def calendarBirthdaysWrong : ChangeSpec := { name := "calendarBirthdays", fn := fun _ => fun
  | [d1, d2] => { results := [.lit (.bool false)], args := [d1, d2] }
  | _ => none }
def CalendarBirthdaysWrongFalsely : Prop := calendarBirthdaysRow.holds Try.pinned (OpenSpec.ofChange calendarBirthdaysWrong)

/-- 'pensionlaw1.CalendarMonths': WHATEVER THE INPUT: true; the input reads as it did. -/
def calendarMonthsSpec : ChangeSpec := { name := "calendarMonths", fn := fun _ => fun
  | [d1, d2] => { results := [.lit (.bool true)], args := [d1, d2] }
  | _ => none }
def calendarMonthsRow : OpenClaim := { program := "ytddgobjblbhlbaa", sum := "b36e2ffa50df74f56cdc337292bcc6c52822ddbffc8439c72e8e79a99f63af67", func := "pension/pensionlaw1.CalendarMonths", spec := "calendarMonths", apart := false }
def CalendarMonthsSaid : Prop := calendarMonthsRow.holds Try.pinned (OpenSpec.ofChange calendarMonthsSpec)

/-- ITS FALSE NEIGHBOUR: 'it returns false'. Refute it at one input. -/
def calendarMonthsWrong : ChangeSpec := { name := "calendarMonths", fn := fun _ => fun
  | [d1, d2] => { results := [.lit (.bool false)], args := [d1, d2] }
  | _ => none }
def CalendarMonthsWrongFalsely : Prop := calendarMonthsRow.holds Try.pinned (OpenSpec.ofChange calendarMonthsWrong)

/-- 'pensionlaw1.CalendarWithin': WHATEVER THE INPUT: true; the input reads as it did. -/
def calendarWithinSpec : ChangeSpec := { name := "calendarWithin", fn := fun _ => fun
  | [d] => { results := [.lit (.bool true)], args := [d] }
  | _ => none }
def calendarWithinRow : OpenClaim := { program := "ytddgobjblbhlbaa", sum := "b36e2ffa50df74f56cdc337292bcc6c52822ddbffc8439c72e8e79a99f63af67", func := "pension/pensionlaw1.CalendarWithin", spec := "calendarWithin", apart := false }
def CalendarWithinSaid : Prop := calendarWithinRow.holds Try.pinned (OpenSpec.ofChange calendarWithinSpec)

/-- ITS FALSE NEIGHBOUR: 'it returns false'. Refute it at one input. -/
def calendarWithinWrong : ChangeSpec := { name := "calendarWithin", fn := fun _ => fun
  | [d] => { results := [.lit (.bool false)], args := [d] }
  | _ => none }
def CalendarWithinWrongFalsely : Prop := calendarWithinRow.holds Try.pinned (OpenSpec.ofChange calendarWithinWrong)

/-- 'pensionlaw1.CalendarAges': WHATEVER THE INPUT: true; the input reads as it did. -/
def calendarAgesSpec : ChangeSpec := { name := "calendarAges", fn := fun _ => fun
  | [d1, d2] => { results := [.lit (.bool true)], args := [d1, d2] }
  | _ => none }
def calendarAgesRow : OpenClaim := { program := "ytddgobjblbhlbaa", sum := "b36e2ffa50df74f56cdc337292bcc6c52822ddbffc8439c72e8e79a99f63af67", func := "pension/pensionlaw1.CalendarAges", spec := "calendarAges", apart := false }
def CalendarAgesSaid : Prop := calendarAgesRow.holds Try.pinned (OpenSpec.ofChange calendarAgesSpec)

/-- ITS FALSE NEIGHBOUR: 'it returns false'. Refute it at one input. -/
def calendarAgesWrong : ChangeSpec := { name := "calendarAges", fn := fun _ => fun
  | [d1, d2] => { results := [.lit (.bool false)], args := [d1, d2] }
  | _ => none }
def CalendarAgesWrongFalsely : Prop := calendarAgesRow.holds Try.pinned (OpenSpec.ofChange calendarAgesWrong)

/-- 'pensionlaw1.CalendarComplete': WHATEVER THE INPUT: true; the input reads as it did. -/
def calendarCompleteSpec : ChangeSpec := { name := "calendarComplete", fn := fun _ => fun
  | [d1, d2, d3] => { results := [.lit (.bool true)], args := [d1, d2, d3] }
  | _ => none }
def calendarCompleteRow : OpenClaim := { program := "ytddgobjblbhlbaa", sum := "b36e2ffa50df74f56cdc337292bcc6c52822ddbffc8439c72e8e79a99f63af67", func := "pension/pensionlaw1.CalendarComplete", spec := "calendarComplete", apart := false }
def CalendarCompleteSaid : Prop := calendarCompleteRow.holds Try.pinned (OpenSpec.ofChange calendarCompleteSpec)

/-- ITS FALSE NEIGHBOUR: 'it returns false'. Refute it at one input. -/
def calendarCompleteWrong : ChangeSpec := { name := "calendarComplete", fn := fun _ => fun
  | [d1, d2, d3] => { results := [.lit (.bool false)], args := [d1, d2, d3] }
  | _ => none }
def CalendarCompleteWrongFalsely : Prop := calendarCompleteRow.holds Try.pinned (OpenSpec.ofChange calendarCompleteWrong)

/-- 'pensionlaw1.CalendarAdds': WHATEVER THE INPUT: true; the input reads as it did. -/
def calendarAddsSpec : ChangeSpec := { name := "calendarAdds", fn := fun _ => fun
  | [d1, d2, d3] => { results := [.lit (.bool true)], args := [d1, d2, d3] }
  | _ => none }
def calendarAddsRow : OpenClaim := { program := "ytddgobjblbhlbaa", sum := "b36e2ffa50df74f56cdc337292bcc6c52822ddbffc8439c72e8e79a99f63af67", func := "pension/pensionlaw1.CalendarAdds", spec := "calendarAdds", apart := false }
def CalendarAddsSaid : Prop := calendarAddsRow.holds Try.pinned (OpenSpec.ofChange calendarAddsSpec)

/-- ITS FALSE NEIGHBOUR: 'it returns false'. Refute it at one input. -/
def calendarAddsWrong : ChangeSpec := { name := "calendarAdds", fn := fun _ => fun
  | [d1, d2, d3] => { results := [.lit (.bool false)], args := [d1, d2, d3] }
  | _ => none }
def CalendarAddsWrongFalsely : Prop := calendarAddsRow.holds Try.pinned (OpenSpec.ofChange calendarAddsWrong)

/-- 'pensionlaw1.CalendarAddsUp': WHATEVER THE INPUT: true; the input reads as it did. -/
def calendarAddsUpSpec : ChangeSpec := { name := "calendarAddsUp", fn := fun _ => fun
  | [d1, d2, d3] => { results := [.lit (.bool true)], args := [d1, d2, d3] }
  | _ => none }
def calendarAddsUpRow : OpenClaim := { program := "ytddgobjblbhlbaa", sum := "b36e2ffa50df74f56cdc337292bcc6c52822ddbffc8439c72e8e79a99f63af67", func := "pension/pensionlaw1.CalendarAddsUp", spec := "calendarAddsUp", apart := false }
def CalendarAddsUpSaid : Prop := calendarAddsUpRow.holds Try.pinned (OpenSpec.ofChange calendarAddsUpSpec)

/-- ITS FALSE NEIGHBOUR: 'it returns false'. Refute it at one input. -/
def calendarAddsUpWrong : ChangeSpec := { name := "calendarAddsUp", fn := fun _ => fun
  | [d1, d2, d3] => { results := [.lit (.bool false)], args := [d1, d2, d3] }
  | _ => none }
def CalendarAddsUpWrongFalsely : Prop := calendarAddsUpRow.holds Try.pinned (OpenSpec.ofChange calendarAddsUpWrong)

/-- 'pensionlaw1.CalendarTexts': WHATEVER THE INPUT: true; the input reads as it did. -/
def calendarTextsSpec : ChangeSpec := { name := "calendarTexts", fn := fun _ => fun
  | [d] => { results := [.lit (.bool true)], args := [d] }
  | _ => none }
def calendarTextsRow : OpenClaim := { program := "ytddgobjblbhlbaa", sum := "b36e2ffa50df74f56cdc337292bcc6c52822ddbffc8439c72e8e79a99f63af67", func := "pension/pensionlaw1.CalendarTexts", spec := "calendarTexts", apart := false }
def CalendarTextsSaid : Prop := calendarTextsRow.holds Try.pinned (OpenSpec.ofChange calendarTextsSpec)

/-- ITS FALSE NEIGHBOUR: 'it returns false'. Refute it at one input. -/
def calendarTextsWrong : ChangeSpec := { name := "calendarTexts", fn := fun _ => fun
  | [d] => { results := [.lit (.bool false)], args := [d] }
  | _ => none }
def CalendarTextsWrongFalsely : Prop := calendarTextsRow.holds Try.pinned (OpenSpec.ofChange calendarTextsWrong)

/-- 'pensionlaw1.CalendarParses': WHATEVER THE INPUT: true; the input reads as it did. -/
def calendarParsesSpec : ChangeSpec := { name := "calendarParses", fn := fun _ => fun
  | [d1, d2, d3, d4] => { results := [.lit (.bool true)], args := [d1, d2, d3, d4] }
  | _ => none }
def calendarParsesRow : OpenClaim := { program := "ytddgobjblbhlbaa", sum := "b36e2ffa50df74f56cdc337292bcc6c52822ddbffc8439c72e8e79a99f63af67", func := "pension/pensionlaw1.CalendarParses", spec := "calendarParses", apart := false }
def CalendarParsesSaid : Prop := calendarParsesRow.holds Try.pinned (OpenSpec.ofChange calendarParsesSpec)

/-- ITS FALSE NEIGHBOUR: 'it returns false'. Refute it at one input. -/
def calendarParsesWrong : ChangeSpec := { name := "calendarParses", fn := fun _ => fun
  | [d1, d2, d3, d4] => { results := [.lit (.bool false)], args := [d1, d2, d3, d4] }
  | _ => none }
def CalendarParsesWrongFalsely : Prop := calendarParsesRow.holds Try.pinned (OpenSpec.ofChange calendarParsesWrong)

/- THE SECOND FORM. 'bulk': how many values and letters a reading holds, each counted each time it is reached (what is shared counts as often as it is met; a slice's spare places count too). A statement '..UptoSaid' is the law's where the arguments, and the package variables that the reading takes, are together of bulk at most 1048576: NARROWER than '..Said'. Prove '..Said' where nothing that the law and all that it calls make is longer than what came in: it says more and counts as full. Else prove '..UptoSaid'. A law counts once. -/
mutual
def uptoBulk {H : Type} : DataW H → Nat
  | .lit (.string bytes) => bytes.length + 1
  | .lit _ => 1
  | .nil => 1
  | .ptr d => uptoBulk d + 1
  | .slice elems spare => uptoBulkAll elems + uptoBulkAll spare + 1
  | .agg parts => uptoBulkAll parts + 1
  | .iface _ d => uptoBulk d + 1
  | .map entries => uptoBulkEntries entries + 1
  | .held _ => 1
def uptoBulkAll {H : Type} : List (DataW H) → Nat
  | [] => 0
  | d :: r => uptoBulk d + uptoBulkAll r
def uptoBulkEntries {H : Type} : List (Lit × DataW H) → Nat
  | [] => 0
  | x :: r => uptoBulkEntry x + uptoBulkEntries r
def uptoBulkEntry {H : Type} : Lit × DataW H → Nat
  | (.string bytes, d) => bytes.length + uptoBulk d + 1
  | (_, d) => uptoBulk d + 1
 end
def uptoSmall : (H : Type) → List (DataW H) → Bool := fun _ ds => decide (uptoBulkAll ds ≤ 1048576)
def OpenSpec.upto (s : _root_.Go.ChangeSpec) : _root_.Go.OpenSpec := { _root_.Go.OpenSpec.ofChange s with cond := some uptoSmall }

/-- 'pensionlaw1.CalendarDays', WHERE WHAT IT READS IS OF BULK AT MOST 1048576: true; the input reads as it did. -/
def calendarDaysUptoRow : OpenClaim := { program := "ytddgobjblbhlbaa", sum := "b36e2ffa50df74f56cdc337292bcc6c52822ddbffc8439c72e8e79a99f63af67", func := "pension/pensionlaw1.CalendarDays", spec := "calendarDays", apart := false, narrowed := true }
def CalendarDaysUptoSaid : Prop := calendarDaysUptoRow.holds Try.pinned (OpenSpec.upto calendarDaysSpec)

/-- 'pensionlaw1.CalendarOrder', WHERE WHAT IT READS IS OF BULK AT MOST 1048576: true; the input reads as it did. -/
def calendarOrderUptoRow : OpenClaim := { program := "ytddgobjblbhlbaa", sum := "b36e2ffa50df74f56cdc337292bcc6c52822ddbffc8439c72e8e79a99f63af67", func := "pension/pensionlaw1.CalendarOrder", spec := "calendarOrder", apart := false, narrowed := true }
def CalendarOrderUptoSaid : Prop := calendarOrderUptoRow.holds Try.pinned (OpenSpec.upto calendarOrderSpec)

/-- 'pensionlaw1.CalendarWeeks', WHERE WHAT IT READS IS OF BULK AT MOST 1048576: true; the input reads as it did. -/
def calendarWeeksUptoRow : OpenClaim := { program := "ytddgobjblbhlbaa", sum := "b36e2ffa50df74f56cdc337292bcc6c52822ddbffc8439c72e8e79a99f63af67", func := "pension/pensionlaw1.CalendarWeeks", spec := "calendarWeeks", apart := false, narrowed := true }
def CalendarWeeksUptoSaid : Prop := calendarWeeksUptoRow.holds Try.pinned (OpenSpec.upto calendarWeeksSpec)

/-- 'pensionlaw1.CalendarDates', WHERE WHAT IT READS IS OF BULK AT MOST 1048576: true; the input reads as it did. -/
def calendarDatesUptoRow : OpenClaim := { program := "ytddgobjblbhlbaa", sum := "b36e2ffa50df74f56cdc337292bcc6c52822ddbffc8439c72e8e79a99f63af67", func := "pension/pensionlaw1.CalendarDates", spec := "calendarDates", apart := false, narrowed := true }
def CalendarDatesUptoSaid : Prop := calendarDatesUptoRow.holds Try.pinned (OpenSpec.upto calendarDatesSpec)

/-- 'pensionlaw1.CalendarBack', WHERE WHAT IT READS IS OF BULK AT MOST 1048576: true; the input reads as it did. -/
def calendarBackUptoRow : OpenClaim := { program := "ytddgobjblbhlbaa", sum := "b36e2ffa50df74f56cdc337292bcc6c52822ddbffc8439c72e8e79a99f63af67", func := "pension/pensionlaw1.CalendarBack", spec := "calendarBack", apart := false, narrowed := true }
def CalendarBackUptoSaid : Prop := calendarBackUptoRow.holds Try.pinned (OpenSpec.upto calendarBackSpec)

/-- 'pensionlaw1.CalendarBirthdays', WHERE WHAT IT READS IS OF BULK AT MOST 1048576: true; the input reads as it did. -/
def calendarBirthdaysUptoRow : OpenClaim := { program := "ytddgobjblbhlbaa", sum := "b36e2ffa50df74f56cdc337292bcc6c52822ddbffc8439c72e8e79a99f63af67", func := "pension/pensionlaw1.CalendarBirthdays", spec := "calendarBirthdays", apart := false, narrowed := true }
def CalendarBirthdaysUptoSaid : Prop := calendarBirthdaysUptoRow.holds Try.pinned (OpenSpec.upto calendarBirthdaysSpec)

/-- 'pensionlaw1.CalendarMonths', WHERE WHAT IT READS IS OF BULK AT MOST 1048576: true; the input reads as it did. -/
def calendarMonthsUptoRow : OpenClaim := { program := "ytddgobjblbhlbaa", sum := "b36e2ffa50df74f56cdc337292bcc6c52822ddbffc8439c72e8e79a99f63af67", func := "pension/pensionlaw1.CalendarMonths", spec := "calendarMonths", apart := false, narrowed := true }
def CalendarMonthsUptoSaid : Prop := calendarMonthsUptoRow.holds Try.pinned (OpenSpec.upto calendarMonthsSpec)

/-- 'pensionlaw1.CalendarWithin', WHERE WHAT IT READS IS OF BULK AT MOST 1048576: true; the input reads as it did. -/
def calendarWithinUptoRow : OpenClaim := { program := "ytddgobjblbhlbaa", sum := "b36e2ffa50df74f56cdc337292bcc6c52822ddbffc8439c72e8e79a99f63af67", func := "pension/pensionlaw1.CalendarWithin", spec := "calendarWithin", apart := false, narrowed := true }
def CalendarWithinUptoSaid : Prop := calendarWithinUptoRow.holds Try.pinned (OpenSpec.upto calendarWithinSpec)

/-- 'pensionlaw1.CalendarAges', WHERE WHAT IT READS IS OF BULK AT MOST 1048576: true; the input reads as it did. -/
def calendarAgesUptoRow : OpenClaim := { program := "ytddgobjblbhlbaa", sum := "b36e2ffa50df74f56cdc337292bcc6c52822ddbffc8439c72e8e79a99f63af67", func := "pension/pensionlaw1.CalendarAges", spec := "calendarAges", apart := false, narrowed := true }
def CalendarAgesUptoSaid : Prop := calendarAgesUptoRow.holds Try.pinned (OpenSpec.upto calendarAgesSpec)

/-- 'pensionlaw1.CalendarComplete', WHERE WHAT IT READS IS OF BULK AT MOST 1048576: true; the input reads as it did. -/
def calendarCompleteUptoRow : OpenClaim := { program := "ytddgobjblbhlbaa", sum := "b36e2ffa50df74f56cdc337292bcc6c52822ddbffc8439c72e8e79a99f63af67", func := "pension/pensionlaw1.CalendarComplete", spec := "calendarComplete", apart := false, narrowed := true }
def CalendarCompleteUptoSaid : Prop := calendarCompleteUptoRow.holds Try.pinned (OpenSpec.upto calendarCompleteSpec)

/-- 'pensionlaw1.CalendarAdds', WHERE WHAT IT READS IS OF BULK AT MOST 1048576: true; the input reads as it did. -/
def calendarAddsUptoRow : OpenClaim := { program := "ytddgobjblbhlbaa", sum := "b36e2ffa50df74f56cdc337292bcc6c52822ddbffc8439c72e8e79a99f63af67", func := "pension/pensionlaw1.CalendarAdds", spec := "calendarAdds", apart := false, narrowed := true }
def CalendarAddsUptoSaid : Prop := calendarAddsUptoRow.holds Try.pinned (OpenSpec.upto calendarAddsSpec)

/-- 'pensionlaw1.CalendarAddsUp', WHERE WHAT IT READS IS OF BULK AT MOST 1048576: true; the input reads as it did. -/
def calendarAddsUpUptoRow : OpenClaim := { program := "ytddgobjblbhlbaa", sum := "b36e2ffa50df74f56cdc337292bcc6c52822ddbffc8439c72e8e79a99f63af67", func := "pension/pensionlaw1.CalendarAddsUp", spec := "calendarAddsUp", apart := false, narrowed := true }
def CalendarAddsUpUptoSaid : Prop := calendarAddsUpUptoRow.holds Try.pinned (OpenSpec.upto calendarAddsUpSpec)

/-- 'pensionlaw1.CalendarTexts', WHERE WHAT IT READS IS OF BULK AT MOST 1048576: true; the input reads as it did. -/
def calendarTextsUptoRow : OpenClaim := { program := "ytddgobjblbhlbaa", sum := "b36e2ffa50df74f56cdc337292bcc6c52822ddbffc8439c72e8e79a99f63af67", func := "pension/pensionlaw1.CalendarTexts", spec := "calendarTexts", apart := false, narrowed := true }
def CalendarTextsUptoSaid : Prop := calendarTextsUptoRow.holds Try.pinned (OpenSpec.upto calendarTextsSpec)

/-- 'pensionlaw1.CalendarParses', WHERE WHAT IT READS IS OF BULK AT MOST 1048576: true; the input reads as it did. -/
def calendarParsesUptoRow : OpenClaim := { program := "ytddgobjblbhlbaa", sum := "b36e2ffa50df74f56cdc337292bcc6c52822ddbffc8439c72e8e79a99f63af67", func := "pension/pensionlaw1.CalendarParses", spec := "calendarParses", apart := false, narrowed := true }
def CalendarParsesUptoSaid : Prop := calendarParsesUptoRow.holds Try.pinned (OpenSpec.upto calendarParsesSpec)

end Rows
end Go.Proofs.Ytddgobjblbhlbaa
