/-
  DERIVED. GIVEN WITH THE SEED: THE CARDS: each row of YthmlhheceihcbaaGreatDoorRows.lean that lists a variable, with what it lists TIED to the program's text (the seventh form; the later family's looks); each row that meets fmt, with fmt's text TOLD by the authors' own Lean function (tested against real Go, not proved from fmt's source: count such statements apart). THE CARD IS WHAT COUNTS. Prove the row's statement (the work); the ties are given (YthmlhheceihcbaaGreatDoorTie.lean); close each card by the builder's one call (the guide's Derived/Test/ToyasCard.lean, 'card_holds'). Laid BY PROGRAM, IN A SANDBOX (cutbox-door.mjs). By AI agents, Wed Nov 11 2026. No macro, syntax, notation, axiom, sorry.
-/
import Derived.Test.YthmlhheceihcbaaGreatDoorRows
import GoSem.ClaimSeven
namespace Go.Proofs.YthmlhheceihcbaaGreatDoor
namespace Rows

/-- THE TIED CARD OF 'pensionlaw6.StatuteParses'. -/
def statuteParsesCard : Claim7 := { stood := { row := statuteParsesRow, standIns := [], harness := (true, "1cd9e6afec857e454b6a95af0b8f31bd1d505ac69cf6bc534571d4b1bff94e4e"), looks := false }, kinds := [], alts := [], laidByText := true, laidKinds := [.data, .data, .data], laidTests := true, laidLooks := .later }
def StatuteParsesCardSaid : Prop := Claim7.holds Tryz.pinned (.plain (OpenSpec.ofChange statuteParsesSpec)) statuteParsesCard

/-- THE TIED CARD OF 'pensionlaw6.StatuteBack'. -/
def statuteBackCard : Claim7 := { stood := { row := statuteBackRow, standIns := [], harness := (true, "1cd9e6afec857e454b6a95af0b8f31bd1d505ac69cf6bc534571d4b1bff94e4e"), looks := false }, kinds := [], alts := [], laidByText := true, laidKinds := [.data, .data, .data], laidTests := true, laidLooks := .later }
def StatuteBackCardSaid : Prop := Claim7.holds Tryz.pinned (.plain (OpenSpec.ofChange statuteBackSpec)) statuteBackCard

/-- THE SECOND FORM's CARD OF 'pensionlaw6.StatuteParses'. -/
def statuteParsesUptoCard : Claim7 := { stood := { row := statuteParsesUptoRow, standIns := [], harness := (true, "1cd9e6afec857e454b6a95af0b8f31bd1d505ac69cf6bc534571d4b1bff94e4e"), looks := false }, kinds := [], alts := [], laidByText := true, laidKinds := [.data, .data, .data], laidTests := true, laidLooks := .later }
def StatuteParsesUptoCardSaid : Prop := Claim7.holds Tryz.pinned (.plain (OpenSpec.upto statuteParsesSpec)) statuteParsesUptoCard

/-- THE SECOND FORM's CARD OF 'pensionlaw6.StatuteBack'. -/
def statuteBackUptoCard : Claim7 := { stood := { row := statuteBackUptoRow, standIns := [], harness := (true, "1cd9e6afec857e454b6a95af0b8f31bd1d505ac69cf6bc534571d4b1bff94e4e"), looks := false }, kinds := [], alts := [], laidByText := true, laidKinds := [.data, .data, .data], laidTests := true, laidLooks := .later }
def StatuteBackUptoCardSaid : Prop := Claim7.holds Tryz.pinned (.plain (OpenSpec.upto statuteBackSpec)) statuteBackUptoCard
end Rows
end Go.Proofs.YthmlhheceihcbaaGreatDoor
