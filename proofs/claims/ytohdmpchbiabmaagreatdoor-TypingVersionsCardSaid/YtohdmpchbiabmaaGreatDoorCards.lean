/-
  DERIVED. GIVEN WITH THE SEED: THE CARDS: each row of YtohdmpchbiabmaaGreatDoorRows.lean that lists a variable, with what it lists TIED to the program's text (the seventh form; the later family's looks); each row that meets fmt, with fmt's text TOLD by the authors' own Lean function (tested against real Go, not proved from fmt's source: count such statements apart). THE CARD IS WHAT COUNTS. Prove the row's statement (the work); the ties are given (YtohdmpchbiabmaaGreatDoorTie.lean); close each card by the builder's one call (the guide's Derived/Test/ToyasCard.lean, 'card_holds'). Laid BY PROGRAM, IN A SANDBOX (cutbox-door.mjs). By AI agents, Wed Nov 11 2026. No macro, syntax, notation, axiom, sorry.
-/
import Derived.Test.YtohdmpchbiabmaaGreatDoorRows
import GoSem.ClaimSeven
namespace Go.Proofs.YtohdmpchbiabmaaGreatDoor
namespace Rows

/-- THE TIED CARD OF 'pensionlaw7.TypingVersions'. -/
def typingVersionsCard : Claim7 := { stood := { row := typingVersionsRow, standIns := [], harness := (true, "5594cf3f8a27dc017657f2545c134f37af509c09df0eb34ddec5ccb5c5ea6252"), looks := false }, kinds := [], alts := [], laidByText := true, laidKinds := [.data, .data, .data], laidTests := true, laidLooks := .later }
def TypingVersionsCardSaid : Prop := Claim7.holds Tryz.pinned (.plain (OpenSpec.ofChange typingVersionsSpec)) typingVersionsCard

/-- THE TIED CARD OF 'pensionlaw7.TypingSound'. -/
def typingSoundCard : Claim7 := { stood := { row := typingSoundRow, standIns := [], harness := (true, "5594cf3f8a27dc017657f2545c134f37af509c09df0eb34ddec5ccb5c5ea6252"), looks := false }, kinds := [], alts := [], laidByText := true, laidKinds := [.data, .data, .data], laidTests := true, laidLooks := .later }
def TypingSoundCardSaid : Prop := Claim7.holds Tryz.pinned (.plain (OpenSpec.ofChange typingSoundSpec)) typingSoundCard

/-- THE TIED CARD OF 'pensionlaw7.TypingStatutes'. -/
def typingStatutesCard : Claim7 := { stood := { row := typingStatutesRow, standIns := [], harness := (true, "5594cf3f8a27dc017657f2545c134f37af509c09df0eb34ddec5ccb5c5ea6252"), looks := false }, kinds := [], alts := [], laidByText := true, laidKinds := [.data, .data, .data], laidTests := true, laidLooks := .later }
def TypingStatutesCardSaid : Prop := Claim7.holds Tryz.pinned (.plain (OpenSpec.ofChange typingStatutesSpec)) typingStatutesCard

/-- THE TIED CARD OF 'pensionlaw6.StatuteValid'. -/
def statuteValidCard : Claim7 := { stood := { row := statuteValidRow, standIns := [], harness := (true, "5594cf3f8a27dc017657f2545c134f37af509c09df0eb34ddec5ccb5c5ea6252"), looks := false }, kinds := [], alts := [], laidByText := true, laidKinds := [.data, .data, .data], laidTests := true, laidLooks := .later }
def StatuteValidCardSaid : Prop := Claim7.holds Tryz.pinned (.plain (OpenSpec.ofChange statuteValidSpec)) statuteValidCard

/-- THE TIED CARD OF 'pensionlaw6.StatuteParses'. -/
def statuteParsesCard : Claim7 := { stood := { row := statuteParsesRow, standIns := [], harness := (true, "5594cf3f8a27dc017657f2545c134f37af509c09df0eb34ddec5ccb5c5ea6252"), looks := false }, kinds := [], alts := [], laidByText := true, laidKinds := [.data, .data, .data], laidTests := true, laidLooks := .later }
def StatuteParsesCardSaid : Prop := Claim7.holds Tryz.pinned (.plain (OpenSpec.ofChange statuteParsesSpec)) statuteParsesCard

/-- THE TIED CARD OF 'pensionlaw6.StatuteBack'. -/
def statuteBackCard : Claim7 := { stood := { row := statuteBackRow, standIns := [], harness := (true, "5594cf3f8a27dc017657f2545c134f37af509c09df0eb34ddec5ccb5c5ea6252"), looks := false }, kinds := [], alts := [], laidByText := true, laidKinds := [.data, .data, .data], laidTests := true, laidLooks := .later }
def StatuteBackCardSaid : Prop := Claim7.holds Tryz.pinned (.plain (OpenSpec.ofChange statuteBackSpec)) statuteBackCard

/-- THE SECOND FORM's CARD OF 'pensionlaw7.TypingVersions'. -/
def typingVersionsUptoCard : Claim7 := { stood := { row := typingVersionsUptoRow, standIns := [], harness := (true, "5594cf3f8a27dc017657f2545c134f37af509c09df0eb34ddec5ccb5c5ea6252"), looks := false }, kinds := [], alts := [], laidByText := true, laidKinds := [.data, .data, .data], laidTests := true, laidLooks := .later }
def TypingVersionsUptoCardSaid : Prop := Claim7.holds Tryz.pinned (.plain (OpenSpec.upto typingVersionsSpec)) typingVersionsUptoCard

/-- THE SECOND FORM's CARD OF 'pensionlaw7.TypingSound'. -/
def typingSoundUptoCard : Claim7 := { stood := { row := typingSoundUptoRow, standIns := [], harness := (true, "5594cf3f8a27dc017657f2545c134f37af509c09df0eb34ddec5ccb5c5ea6252"), looks := false }, kinds := [], alts := [], laidByText := true, laidKinds := [.data, .data, .data], laidTests := true, laidLooks := .later }
def TypingSoundUptoCardSaid : Prop := Claim7.holds Tryz.pinned (.plain (OpenSpec.upto typingSoundSpec)) typingSoundUptoCard

/-- THE SECOND FORM's CARD OF 'pensionlaw7.TypingStatutes'. -/
def typingStatutesUptoCard : Claim7 := { stood := { row := typingStatutesUptoRow, standIns := [], harness := (true, "5594cf3f8a27dc017657f2545c134f37af509c09df0eb34ddec5ccb5c5ea6252"), looks := false }, kinds := [], alts := [], laidByText := true, laidKinds := [.data, .data, .data], laidTests := true, laidLooks := .later }
def TypingStatutesUptoCardSaid : Prop := Claim7.holds Tryz.pinned (.plain (OpenSpec.upto typingStatutesSpec)) typingStatutesUptoCard

/-- THE SECOND FORM's CARD OF 'pensionlaw6.StatuteValid'. -/
def statuteValidUptoCard : Claim7 := { stood := { row := statuteValidUptoRow, standIns := [], harness := (true, "5594cf3f8a27dc017657f2545c134f37af509c09df0eb34ddec5ccb5c5ea6252"), looks := false }, kinds := [], alts := [], laidByText := true, laidKinds := [.data, .data, .data], laidTests := true, laidLooks := .later }
def StatuteValidUptoCardSaid : Prop := Claim7.holds Tryz.pinned (.plain (OpenSpec.upto statuteValidSpec)) statuteValidUptoCard

/-- THE SECOND FORM's CARD OF 'pensionlaw6.StatuteParses'. -/
def statuteParsesUptoCard : Claim7 := { stood := { row := statuteParsesUptoRow, standIns := [], harness := (true, "5594cf3f8a27dc017657f2545c134f37af509c09df0eb34ddec5ccb5c5ea6252"), looks := false }, kinds := [], alts := [], laidByText := true, laidKinds := [.data, .data, .data], laidTests := true, laidLooks := .later }
def StatuteParsesUptoCardSaid : Prop := Claim7.holds Tryz.pinned (.plain (OpenSpec.upto statuteParsesSpec)) statuteParsesUptoCard

/-- THE SECOND FORM's CARD OF 'pensionlaw6.StatuteBack'. -/
def statuteBackUptoCard : Claim7 := { stood := { row := statuteBackUptoRow, standIns := [], harness := (true, "5594cf3f8a27dc017657f2545c134f37af509c09df0eb34ddec5ccb5c5ea6252"), looks := false }, kinds := [], alts := [], laidByText := true, laidKinds := [.data, .data, .data], laidTests := true, laidLooks := .later }
def StatuteBackUptoCardSaid : Prop := Claim7.holds Tryz.pinned (.plain (OpenSpec.upto statuteBackSpec)) statuteBackUptoCard
end Rows
end Go.Proofs.YtohdmpchbiabmaaGreatDoor
