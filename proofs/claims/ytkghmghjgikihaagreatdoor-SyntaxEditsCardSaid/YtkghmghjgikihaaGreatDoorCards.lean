/-
  DERIVED. GIVEN WITH THE SEED: THE CARDS: each row of YtkghmghjgikihaaGreatDoorRows.lean that lists a variable, with what it lists TIED to the program's text (the seventh form; the later family's looks); each row that meets fmt, with fmt's text TOLD by the authors' own Lean function (tested against real Go, not proved from fmt's source: count such statements apart). THE CARD IS WHAT COUNTS. Prove the row's statement (the work); the ties are given (YtkghmghjgikihaaGreatDoorTie.lean); close each card by the builder's one call (the guide's Derived/Test/ToyasCard.lean, 'card_holds'). Laid BY PROGRAM, IN A SANDBOX (cutbox-door.mjs). By AI agents, Wed Nov 11 2026. No macro, syntax, notation, axiom, sorry.
-/
import Derived.Test.YtkghmghjgikihaaGreatDoorRows
import GoSem.ClaimSeven
namespace Go.Proofs.YtkghmghjgikihaaGreatDoor
namespace Rows

/-- THE TIED CARD OF 'pensionlaw6.SyntaxParses'. -/
def syntaxParsesCard : Claim7 := { stood := { row := syntaxParsesRow, standIns := [], harness := (true, "64061df2e599fa1832aaf6fc638e502c15c86fc363f80b68edb7de9bf2938265"), looks := false }, kinds := [], alts := [], laidByText := true, laidKinds := [.data, .data, .data], laidTests := true, laidLooks := .later }
def SyntaxParsesCardSaid : Prop := Claim7.holds Tryz.pinned (.plain (OpenSpec.ofChange syntaxParsesSpec)) syntaxParsesCard

/-- THE TIED CARD OF 'pensionlaw6.SyntaxEdits'. -/
def syntaxEditsCard : Claim7 := { stood := { row := syntaxEditsRow, standIns := [], harness := (true, "64061df2e599fa1832aaf6fc638e502c15c86fc363f80b68edb7de9bf2938265"), looks := false }, kinds := [], alts := [], laidByText := true, laidKinds := [.data, .data, .data], laidTests := true, laidLooks := .later }
def SyntaxEditsCardSaid : Prop := Claim7.holds Tryz.pinned (.plain (OpenSpec.ofChange syntaxEditsSpec)) syntaxEditsCard

/-- THE TIED CARD OF 'pensionlaw6.SyntaxTrees'. -/
def syntaxTreesCard : Claim7 := { stood := { row := syntaxTreesRow, standIns := [], harness := (true, "64061df2e599fa1832aaf6fc638e502c15c86fc363f80b68edb7de9bf2938265"), looks := false }, kinds := [], alts := [], laidByText := true, laidKinds := [.data, .data, .data], laidTests := true, laidLooks := .later }
def SyntaxTreesCardSaid : Prop := Claim7.holds Tryz.pinned (.plain (OpenSpec.ofChange syntaxTreesSpec)) syntaxTreesCard

/-- THE TIED CARD OF 'pensionlaw6.SyntaxFormats'. -/
def syntaxFormatsCard : Claim7 := { stood := { row := syntaxFormatsRow, standIns := [], harness := (true, "64061df2e599fa1832aaf6fc638e502c15c86fc363f80b68edb7de9bf2938265"), looks := false }, kinds := [], alts := [], laidByText := true, laidKinds := [.data, .data, .data], laidTests := true, laidLooks := .later }
def SyntaxFormatsCardSaid : Prop := Claim7.holds Tryz.pinned (.plain (OpenSpec.ofChange syntaxFormatsSpec)) syntaxFormatsCard

/-- THE TIED CARD OF 'pensionlaw6.SyntaxTight'. -/
def syntaxTightCard : Claim7 := { stood := { row := syntaxTightRow, standIns := [], harness := (true, "64061df2e599fa1832aaf6fc638e502c15c86fc363f80b68edb7de9bf2938265"), looks := false }, kinds := [], alts := [], laidByText := true, laidKinds := [.data, .data, .data], laidTests := true, laidLooks := .later }
def SyntaxTightCardSaid : Prop := Claim7.holds Tryz.pinned (.plain (OpenSpec.ofChange syntaxTightSpec)) syntaxTightCard

/-- THE TIED CARD OF 'pensionlaw6.SyntaxBack'. -/
def syntaxBackCard : Claim7 := { stood := { row := syntaxBackRow, standIns := [], harness := (true, "64061df2e599fa1832aaf6fc638e502c15c86fc363f80b68edb7de9bf2938265"), looks := false }, kinds := [], alts := [], laidByText := true, laidKinds := [.data, .data, .data], laidTests := true, laidLooks := .later }
def SyntaxBackCardSaid : Prop := Claim7.holds Tryz.pinned (.plain (OpenSpec.ofChange syntaxBackSpec)) syntaxBackCard

/-- THE TIED CARD OF 'pensionlaw6.StatuteValid'. -/
def statuteValidCard : Claim7 := { stood := { row := statuteValidRow, standIns := [], harness := (true, "64061df2e599fa1832aaf6fc638e502c15c86fc363f80b68edb7de9bf2938265"), looks := false }, kinds := [], alts := [], laidByText := true, laidKinds := [.data, .data, .data], laidTests := true, laidLooks := .later }
def StatuteValidCardSaid : Prop := Claim7.holds Tryz.pinned (.plain (OpenSpec.ofChange statuteValidSpec)) statuteValidCard

/-- THE TIED CARD OF 'pensionlaw6.StatuteParses'. -/
def statuteParsesCard : Claim7 := { stood := { row := statuteParsesRow, standIns := [], harness := (true, "64061df2e599fa1832aaf6fc638e502c15c86fc363f80b68edb7de9bf2938265"), looks := false }, kinds := [], alts := [], laidByText := true, laidKinds := [.data, .data, .data], laidTests := true, laidLooks := .later }
def StatuteParsesCardSaid : Prop := Claim7.holds Tryz.pinned (.plain (OpenSpec.ofChange statuteParsesSpec)) statuteParsesCard

/-- THE TIED CARD OF 'pensionlaw6.StatuteBack'. -/
def statuteBackCard : Claim7 := { stood := { row := statuteBackRow, standIns := [], harness := (true, "64061df2e599fa1832aaf6fc638e502c15c86fc363f80b68edb7de9bf2938265"), looks := false }, kinds := [], alts := [], laidByText := true, laidKinds := [.data, .data, .data], laidTests := true, laidLooks := .later }
def StatuteBackCardSaid : Prop := Claim7.holds Tryz.pinned (.plain (OpenSpec.ofChange statuteBackSpec)) statuteBackCard

/-- THE SECOND FORM's CARD OF 'pensionlaw6.SyntaxParses'. -/
def syntaxParsesUptoCard : Claim7 := { stood := { row := syntaxParsesUptoRow, standIns := [], harness := (true, "64061df2e599fa1832aaf6fc638e502c15c86fc363f80b68edb7de9bf2938265"), looks := false }, kinds := [], alts := [], laidByText := true, laidKinds := [.data, .data, .data], laidTests := true, laidLooks := .later }
def SyntaxParsesUptoCardSaid : Prop := Claim7.holds Tryz.pinned (.plain (OpenSpec.upto syntaxParsesSpec)) syntaxParsesUptoCard

/-- THE SECOND FORM's CARD OF 'pensionlaw6.SyntaxEdits'. -/
def syntaxEditsUptoCard : Claim7 := { stood := { row := syntaxEditsUptoRow, standIns := [], harness := (true, "64061df2e599fa1832aaf6fc638e502c15c86fc363f80b68edb7de9bf2938265"), looks := false }, kinds := [], alts := [], laidByText := true, laidKinds := [.data, .data, .data], laidTests := true, laidLooks := .later }
def SyntaxEditsUptoCardSaid : Prop := Claim7.holds Tryz.pinned (.plain (OpenSpec.upto syntaxEditsSpec)) syntaxEditsUptoCard

/-- THE SECOND FORM's CARD OF 'pensionlaw6.SyntaxTrees'. -/
def syntaxTreesUptoCard : Claim7 := { stood := { row := syntaxTreesUptoRow, standIns := [], harness := (true, "64061df2e599fa1832aaf6fc638e502c15c86fc363f80b68edb7de9bf2938265"), looks := false }, kinds := [], alts := [], laidByText := true, laidKinds := [.data, .data, .data], laidTests := true, laidLooks := .later }
def SyntaxTreesUptoCardSaid : Prop := Claim7.holds Tryz.pinned (.plain (OpenSpec.upto syntaxTreesSpec)) syntaxTreesUptoCard

/-- THE SECOND FORM's CARD OF 'pensionlaw6.SyntaxFormats'. -/
def syntaxFormatsUptoCard : Claim7 := { stood := { row := syntaxFormatsUptoRow, standIns := [], harness := (true, "64061df2e599fa1832aaf6fc638e502c15c86fc363f80b68edb7de9bf2938265"), looks := false }, kinds := [], alts := [], laidByText := true, laidKinds := [.data, .data, .data], laidTests := true, laidLooks := .later }
def SyntaxFormatsUptoCardSaid : Prop := Claim7.holds Tryz.pinned (.plain (OpenSpec.upto syntaxFormatsSpec)) syntaxFormatsUptoCard

/-- THE SECOND FORM's CARD OF 'pensionlaw6.SyntaxTight'. -/
def syntaxTightUptoCard : Claim7 := { stood := { row := syntaxTightUptoRow, standIns := [], harness := (true, "64061df2e599fa1832aaf6fc638e502c15c86fc363f80b68edb7de9bf2938265"), looks := false }, kinds := [], alts := [], laidByText := true, laidKinds := [.data, .data, .data], laidTests := true, laidLooks := .later }
def SyntaxTightUptoCardSaid : Prop := Claim7.holds Tryz.pinned (.plain (OpenSpec.upto syntaxTightSpec)) syntaxTightUptoCard

/-- THE SECOND FORM's CARD OF 'pensionlaw6.SyntaxBack'. -/
def syntaxBackUptoCard : Claim7 := { stood := { row := syntaxBackUptoRow, standIns := [], harness := (true, "64061df2e599fa1832aaf6fc638e502c15c86fc363f80b68edb7de9bf2938265"), looks := false }, kinds := [], alts := [], laidByText := true, laidKinds := [.data, .data, .data], laidTests := true, laidLooks := .later }
def SyntaxBackUptoCardSaid : Prop := Claim7.holds Tryz.pinned (.plain (OpenSpec.upto syntaxBackSpec)) syntaxBackUptoCard

/-- THE SECOND FORM's CARD OF 'pensionlaw6.StatuteValid'. -/
def statuteValidUptoCard : Claim7 := { stood := { row := statuteValidUptoRow, standIns := [], harness := (true, "64061df2e599fa1832aaf6fc638e502c15c86fc363f80b68edb7de9bf2938265"), looks := false }, kinds := [], alts := [], laidByText := true, laidKinds := [.data, .data, .data], laidTests := true, laidLooks := .later }
def StatuteValidUptoCardSaid : Prop := Claim7.holds Tryz.pinned (.plain (OpenSpec.upto statuteValidSpec)) statuteValidUptoCard

/-- THE SECOND FORM's CARD OF 'pensionlaw6.StatuteParses'. -/
def statuteParsesUptoCard : Claim7 := { stood := { row := statuteParsesUptoRow, standIns := [], harness := (true, "64061df2e599fa1832aaf6fc638e502c15c86fc363f80b68edb7de9bf2938265"), looks := false }, kinds := [], alts := [], laidByText := true, laidKinds := [.data, .data, .data], laidTests := true, laidLooks := .later }
def StatuteParsesUptoCardSaid : Prop := Claim7.holds Tryz.pinned (.plain (OpenSpec.upto statuteParsesSpec)) statuteParsesUptoCard

/-- THE SECOND FORM's CARD OF 'pensionlaw6.StatuteBack'. -/
def statuteBackUptoCard : Claim7 := { stood := { row := statuteBackUptoRow, standIns := [], harness := (true, "64061df2e599fa1832aaf6fc638e502c15c86fc363f80b68edb7de9bf2938265"), looks := false }, kinds := [], alts := [], laidByText := true, laidKinds := [.data, .data, .data], laidTests := true, laidLooks := .later }
def StatuteBackUptoCardSaid : Prop := Claim7.holds Tryz.pinned (.plain (OpenSpec.upto statuteBackSpec)) statuteBackUptoCard
end Rows
end Go.Proofs.YtkghmghjgikihaaGreatDoor
