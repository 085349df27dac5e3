/-
  DERIVED. GIVEN WITH THE SEED: THE CARDS: each row of YtfdajdlbkdfhoaaDoorRows.lean that lists a variable, with what it lists TIED to the program's text (the seventh form; the later family's looks); each row that meets fmt, with fmt's text TOLD by the authors' own Lean function (tested against real Go, not proved from fmt's source: count such statements apart). THE CARD IS WHAT COUNTS. Prove the row's statement (the work); the ties are given (YtfdajdlbkdfhoaaDoorTie.lean); close each card by the builder's one call (the guide's Derived/Test/ToyasCard.lean, 'card_holds'). Laid BY PROGRAM, IN A SANDBOX (cutbox-door.mjs). By AI agents, Wed Nov 11 2026. No macro, syntax, notation, axiom, sorry.
-/
import Derived.Test.YtfdajdlbkdfhoaaDoorRows
import GoSem.ClaimSeven
namespace Go.Proofs.YtfdajdlbkdfhoaaDoor
namespace Rows

/-- THE TIED CARD OF 'pensionlaw5.TokenShortest'. -/
def tokenShortestCard : Claim7 := { stood := { row := tokenShortestRow, standIns := [], harness := (true, "bf3c006d3ae7b402e92e7cf30bc3a1fdbf3a4a68ee4017695f95554b384e1550"), looks := true }, kinds := [], alts := [], laidByText := true, laidKinds := [.data, .data, .data], laidTests := true, laidLooks := .later }
def TokenShortestCardSaid : Prop := Claim7.holds Tryd.pinned (.plain (OpenSpec.ofChange tokenShortestSpec)) tokenShortestCard

/-- THE TIED CARD OF 'pensionlaw3.RationalTexts'. -/
def rationalTextsCard : Claim7 := { stood := { row := rationalTextsRow, standIns := [], harness := (true, "bf3c006d3ae7b402e92e7cf30bc3a1fdbf3a4a68ee4017695f95554b384e1550"), looks := true }, kinds := [], alts := [], laidByText := true, laidKinds := [.data, .data, .data, .sentinel, .sentinel], laidTests := true, laidLooks := .later }
def RationalTextsCardSaid : Prop := Claim7.holds Tryd.pinned (.plain (OpenSpec.ofChange rationalTextsSpec)) rationalTextsCard

/-- THE TIED CARD OF 'pensionlaw3.RationalParses'. -/
def rationalParsesCard : Claim7 := { stood := { row := rationalParsesRow, standIns := [], harness := (true, "bf3c006d3ae7b402e92e7cf30bc3a1fdbf3a4a68ee4017695f95554b384e1550"), looks := true }, kinds := [], alts := [], laidByText := true, laidKinds := [.data, .data, .data, .sentinel, .sentinel], laidTests := true, laidLooks := .later }
def RationalParsesCardSaid : Prop := Claim7.holds Tryd.pinned (.plain (OpenSpec.ofChange rationalParsesSpec)) rationalParsesCard

/-- THE SECOND FORM's CARD OF 'pensionlaw5.TokenShortest'. -/
def tokenShortestUptoCard : Claim7 := { stood := { row := tokenShortestUptoRow, standIns := [], harness := (true, "bf3c006d3ae7b402e92e7cf30bc3a1fdbf3a4a68ee4017695f95554b384e1550"), looks := true }, kinds := [], alts := [], laidByText := true, laidKinds := [.data, .data, .data], laidTests := true, laidLooks := .later }
def TokenShortestUptoCardSaid : Prop := Claim7.holds Tryd.pinned (.plain (OpenSpec.upto tokenShortestSpec)) tokenShortestUptoCard

/-- THE SECOND FORM's CARD OF 'pensionlaw3.RationalTexts'. -/
def rationalTextsUptoCard : Claim7 := { stood := { row := rationalTextsUptoRow, standIns := [], harness := (true, "bf3c006d3ae7b402e92e7cf30bc3a1fdbf3a4a68ee4017695f95554b384e1550"), looks := true }, kinds := [], alts := [], laidByText := true, laidKinds := [.data, .data, .data, .sentinel, .sentinel], laidTests := true, laidLooks := .later }
def RationalTextsUptoCardSaid : Prop := Claim7.holds Tryd.pinned (.plain (OpenSpec.upto rationalTextsSpec)) rationalTextsUptoCard

/-- THE SECOND FORM's CARD OF 'pensionlaw3.RationalParses'. -/
def rationalParsesUptoCard : Claim7 := { stood := { row := rationalParsesUptoRow, standIns := [], harness := (true, "bf3c006d3ae7b402e92e7cf30bc3a1fdbf3a4a68ee4017695f95554b384e1550"), looks := true }, kinds := [], alts := [], laidByText := true, laidKinds := [.data, .data, .data, .sentinel, .sentinel], laidTests := true, laidLooks := .later }
def RationalParsesUptoCardSaid : Prop := Claim7.holds Tryd.pinned (.plain (OpenSpec.upto rationalParsesSpec)) rationalParsesUptoCard
end Rows
end Go.Proofs.YtfdajdlbkdfhoaaDoor
