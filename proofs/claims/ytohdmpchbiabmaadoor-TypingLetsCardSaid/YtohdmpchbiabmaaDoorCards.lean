/-
  DERIVED. GIVEN WITH THE SEED: THE CARDS: each row of YtohdmpchbiabmaaDoorRows.lean that lists a variable, with what it lists TIED to the program's text (the seventh form; the later family's looks); each row that meets fmt, with fmt's text TOLD by the authors' own Lean function (tested against real Go, not proved from fmt's source: count such statements apart). THE CARD IS WHAT COUNTS. Prove the row's statement (the work); the ties are given (YtohdmpchbiabmaaDoorTie.lean); close each card by the builder's one call (the guide's Derived/Test/ToyasCard.lean, 'card_holds'). Laid BY PROGRAM, IN A SANDBOX (cutbox-door.mjs). By AI agents, Wed Nov 11 2026. No macro, syntax, notation, axiom, sorry.
-/
import Derived.Test.YtohdmpchbiabmaaDoorRows
import GoSem.ClaimSeven
namespace Go.Proofs.YtohdmpchbiabmaaDoor
namespace Rows

/-- THE TIED CARD OF 'pensionlaw7.TypingLets'. -/
def typingLetsCard : Claim7 := { stood := { row := typingLetsRow, standIns := [], harness := (true, "203934c17ce0fa915fc8b094d791184e3c242ad2cc250c005f46245fe1501a9b"), looks := false }, kinds := [], alts := [], laidByText := true, laidKinds := [.data, .data, .data], laidTests := true, laidLooks := .later }
def TypingLetsCardSaid : Prop := Claim7.holds Tryd.pinned (.plain (OpenSpec.ofChange typingLetsSpec)) typingLetsCard

/-- THE TIED CARD OF 'pensionlaw6.SyntaxNormal'. -/
def syntaxNormalCard : Claim7 := { stood := { row := syntaxNormalRow, standIns := [], harness := (true, "203934c17ce0fa915fc8b094d791184e3c242ad2cc250c005f46245fe1501a9b"), looks := false }, kinds := [], alts := [], laidByText := true, laidKinds := [.data, .data, .data], laidTests := true, laidLooks := .later }
def SyntaxNormalCardSaid : Prop := Claim7.holds Tryd.pinned (.plain (OpenSpec.ofChange syntaxNormalSpec)) syntaxNormalCard

/-- THE TIED CARD OF 'pensionlaw6.StatuteLimits'. -/
def statuteLimitsCard : Claim7 := { stood := { row := statuteLimitsRow, standIns := [], harness := (true, "203934c17ce0fa915fc8b094d791184e3c242ad2cc250c005f46245fe1501a9b"), looks := false }, kinds := [], alts := [], laidByText := true, laidKinds := [.data, .data, .data], laidTests := true, laidLooks := .later }
def StatuteLimitsCardSaid : Prop := Claim7.holds Tryd.pinned (.plain (OpenSpec.ofChange statuteLimitsSpec)) statuteLimitsCard

/-- THE SECOND FORM's CARD OF 'pensionlaw7.TypingLets'. -/
def typingLetsUptoCard : Claim7 := { stood := { row := typingLetsUptoRow, standIns := [], harness := (true, "203934c17ce0fa915fc8b094d791184e3c242ad2cc250c005f46245fe1501a9b"), looks := false }, kinds := [], alts := [], laidByText := true, laidKinds := [.data, .data, .data], laidTests := true, laidLooks := .later }
def TypingLetsUptoCardSaid : Prop := Claim7.holds Tryd.pinned (.plain (OpenSpec.upto typingLetsSpec)) typingLetsUptoCard

/-- THE SECOND FORM's CARD OF 'pensionlaw6.SyntaxNormal'. -/
def syntaxNormalUptoCard : Claim7 := { stood := { row := syntaxNormalUptoRow, standIns := [], harness := (true, "203934c17ce0fa915fc8b094d791184e3c242ad2cc250c005f46245fe1501a9b"), looks := false }, kinds := [], alts := [], laidByText := true, laidKinds := [.data, .data, .data], laidTests := true, laidLooks := .later }
def SyntaxNormalUptoCardSaid : Prop := Claim7.holds Tryd.pinned (.plain (OpenSpec.upto syntaxNormalSpec)) syntaxNormalUptoCard

/-- THE SECOND FORM's CARD OF 'pensionlaw6.StatuteLimits'. -/
def statuteLimitsUptoCard : Claim7 := { stood := { row := statuteLimitsUptoRow, standIns := [], harness := (true, "203934c17ce0fa915fc8b094d791184e3c242ad2cc250c005f46245fe1501a9b"), looks := false }, kinds := [], alts := [], laidByText := true, laidKinds := [.data, .data, .data], laidTests := true, laidLooks := .later }
def StatuteLimitsUptoCardSaid : Prop := Claim7.holds Tryd.pinned (.plain (OpenSpec.upto statuteLimitsSpec)) statuteLimitsUptoCard
end Rows
end Go.Proofs.YtohdmpchbiabmaaDoor
