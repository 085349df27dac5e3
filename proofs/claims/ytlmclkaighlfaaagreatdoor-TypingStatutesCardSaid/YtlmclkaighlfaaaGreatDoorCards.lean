/-
  DERIVED. GIVEN WITH THE SEED: THE CARDS: each row of YtlmclkaighlfaaaGreatDoorRows.lean that lists a variable, with what it lists TIED to the program's text (the seventh form; the later family's looks); each row that meets fmt, with fmt's text TOLD by the authors' own Lean function (tested against real Go, not proved from fmt's source: count such statements apart). THE CARD IS WHAT COUNTS. Prove the row's statement (the work); the ties are given (YtlmclkaighlfaaaGreatDoorTie.lean); close each card by the builder's one call (the guide's Derived/Test/ToyasCard.lean, 'card_holds'). Laid BY PROGRAM, IN A SANDBOX (cutbox-door.mjs). By AI agents, Wed Nov 11 2026. No macro, syntax, notation, axiom, sorry.
-/
import Derived.Test.YtlmclkaighlfaaaGreatDoorRows
import GoSem.ClaimSeven
namespace Go.Proofs.YtlmclkaighlfaaaGreatDoor
namespace Rows

/-- THE TIED CARD OF 'pensionlaw7.TypingStatutes'. -/
def typingStatutesCard : Claim7 := { stood := { row := typingStatutesRow, standIns := [], harness := (true, "cc4ff767721189b926c8ec0032801994513d47a17a5146bb664e511ded142fe7"), looks := false }, kinds := [], alts := [], laidByText := true, laidKinds := [.data, .data, .data], laidTests := true, laidLooks := .later }
def TypingStatutesCardSaid : Prop := Claim7.holds Tryz.pinned (.plain (OpenSpec.ofChange typingStatutesSpec)) typingStatutesCard

/-- THE TIED CARD OF 'pensionlaw6.StatuteValid'. -/
def statuteValidCard : Claim7 := { stood := { row := statuteValidRow, standIns := [], harness := (true, "cc4ff767721189b926c8ec0032801994513d47a17a5146bb664e511ded142fe7"), looks := false }, kinds := [], alts := [], laidByText := true, laidKinds := [.data, .data, .data], laidTests := true, laidLooks := .later }
def StatuteValidCardSaid : Prop := Claim7.holds Tryz.pinned (.plain (OpenSpec.ofChange statuteValidSpec)) statuteValidCard

/-- THE TIED CARD OF 'pensionlaw6.StatuteParses'. -/
def statuteParsesCard : Claim7 := { stood := { row := statuteParsesRow, standIns := [], harness := (true, "cc4ff767721189b926c8ec0032801994513d47a17a5146bb664e511ded142fe7"), looks := false }, kinds := [], alts := [], laidByText := true, laidKinds := [.data, .data, .data], laidTests := true, laidLooks := .later }
def StatuteParsesCardSaid : Prop := Claim7.holds Tryz.pinned (.plain (OpenSpec.ofChange statuteParsesSpec)) statuteParsesCard

/-- THE TIED CARD OF 'pensionlaw6.StatuteBack'. -/
def statuteBackCard : Claim7 := { stood := { row := statuteBackRow, standIns := [], harness := (true, "cc4ff767721189b926c8ec0032801994513d47a17a5146bb664e511ded142fe7"), looks := false }, kinds := [], alts := [], laidByText := true, laidKinds := [.data, .data, .data], laidTests := true, laidLooks := .later }
def StatuteBackCardSaid : Prop := Claim7.holds Tryz.pinned (.plain (OpenSpec.ofChange statuteBackSpec)) statuteBackCard

/-- THE SECOND FORM's CARD OF 'pensionlaw7.TypingStatutes'. -/
def typingStatutesUptoCard : Claim7 := { stood := { row := typingStatutesUptoRow, standIns := [], harness := (true, "cc4ff767721189b926c8ec0032801994513d47a17a5146bb664e511ded142fe7"), looks := false }, kinds := [], alts := [], laidByText := true, laidKinds := [.data, .data, .data], laidTests := true, laidLooks := .later }
def TypingStatutesUptoCardSaid : Prop := Claim7.holds Tryz.pinned (.plain (OpenSpec.upto typingStatutesSpec)) typingStatutesUptoCard

/-- THE SECOND FORM's CARD OF 'pensionlaw6.StatuteValid'. -/
def statuteValidUptoCard : Claim7 := { stood := { row := statuteValidUptoRow, standIns := [], harness := (true, "cc4ff767721189b926c8ec0032801994513d47a17a5146bb664e511ded142fe7"), looks := false }, kinds := [], alts := [], laidByText := true, laidKinds := [.data, .data, .data], laidTests := true, laidLooks := .later }
def StatuteValidUptoCardSaid : Prop := Claim7.holds Tryz.pinned (.plain (OpenSpec.upto statuteValidSpec)) statuteValidUptoCard

/-- THE SECOND FORM's CARD OF 'pensionlaw6.StatuteParses'. -/
def statuteParsesUptoCard : Claim7 := { stood := { row := statuteParsesUptoRow, standIns := [], harness := (true, "cc4ff767721189b926c8ec0032801994513d47a17a5146bb664e511ded142fe7"), looks := false }, kinds := [], alts := [], laidByText := true, laidKinds := [.data, .data, .data], laidTests := true, laidLooks := .later }
def StatuteParsesUptoCardSaid : Prop := Claim7.holds Tryz.pinned (.plain (OpenSpec.upto statuteParsesSpec)) statuteParsesUptoCard

/-- THE SECOND FORM's CARD OF 'pensionlaw6.StatuteBack'. -/
def statuteBackUptoCard : Claim7 := { stood := { row := statuteBackUptoRow, standIns := [], harness := (true, "cc4ff767721189b926c8ec0032801994513d47a17a5146bb664e511ded142fe7"), looks := false }, kinds := [], alts := [], laidByText := true, laidKinds := [.data, .data, .data], laidTests := true, laidLooks := .later }
def StatuteBackUptoCardSaid : Prop := Claim7.holds Tryz.pinned (.plain (OpenSpec.upto statuteBackSpec)) statuteBackUptoCard
end Rows
end Go.Proofs.YtlmclkaighlfaaaGreatDoor
