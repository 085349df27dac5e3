/-
  DERIVED. GIVEN WITH THE SEED: THE CARDS: each row of YtnhmebhmlbofgaaDoorRows.lean that lists a variable, with what it lists TIED to the program's text (the seventh form; the later family's looks); each row that meets fmt, with fmt's text TOLD by the authors' own Lean function (tested against real Go, not proved from fmt's source: count such statements apart). THE CARD IS WHAT COUNTS. Prove the row's statement (the work); the ties are given (YtnhmebhmlbofgaaDoorTie.lean); close each card by the builder's one call (the guide's Derived/Test/ToyasCard.lean, 'card_holds'). Laid BY PROGRAM, IN A SANDBOX (cutbox-door.mjs). By AI agents, Wed Nov 11 2026. No macro, syntax, notation, axiom, sorry.
-/
import Derived.Test.YtnhmebhmlbofgaaDoorRows
import GoSem.ClaimSeven
namespace Go.Proofs.YtnhmebhmlbofgaaDoor
namespace Rows

/-- THE TIED CARD OF 'pensionlaw7.TypingInputs'. -/
def typingInputsCard : Claim7 := { stood := { row := typingInputsRow, standIns := [], harness := (true, "8653fc28647d1407612e5a36e33935befa6e181d86bf76bed0999b2d710ee696"), looks := false }, kinds := [], alts := [], laidByText := true, laidKinds := [.data, .data, .data], laidTests := true, laidLooks := .later }
def TypingInputsCardSaid : Prop := Claim7.holds Tryd.pinned (.plain (OpenSpec.ofChange typingInputsSpec)) typingInputsCard

/-- THE TIED CARD OF 'pensionlaw7.TypingInfers'. -/
def typingInfersCard : Claim7 := { stood := { row := typingInfersRow, standIns := [], harness := (true, "8653fc28647d1407612e5a36e33935befa6e181d86bf76bed0999b2d710ee696"), looks := false }, kinds := [], alts := [], laidByText := true, laidKinds := [.data, .data, .data], laidTests := true, laidLooks := .later }
def TypingInfersCardSaid : Prop := Claim7.holds Tryd.pinned (.plain (OpenSpec.ofChange typingInfersSpec)) typingInfersCard

/-- THE TIED CARD OF 'pensionlaw7.TypingMade'. -/
def typingMadeCard : Claim7 := { stood := { row := typingMadeRow, standIns := [], harness := (true, "8653fc28647d1407612e5a36e33935befa6e181d86bf76bed0999b2d710ee696"), looks := false }, kinds := [], alts := [], laidByText := true, laidKinds := [.data, .data, .data], laidTests := true, laidLooks := .later }
def TypingMadeCardSaid : Prop := Claim7.holds Tryd.pinned (.plain (OpenSpec.ofChange typingMadeSpec)) typingMadeCard

/-- THE TIED CARD OF 'pensionlaw7.TypingReplace'. -/
def typingReplaceCard : Claim7 := { stood := { row := typingReplaceRow, standIns := [], harness := (true, "8653fc28647d1407612e5a36e33935befa6e181d86bf76bed0999b2d710ee696"), looks := false }, kinds := [], alts := [], laidByText := true, laidKinds := [.data, .data, .data], laidTests := true, laidLooks := .later }
def TypingReplaceCardSaid : Prop := Claim7.holds Tryd.pinned (.plain (OpenSpec.ofChange typingReplaceSpec)) typingReplaceCard

/-- THE TIED CARD OF 'pensionlaw7.TypingLets'. -/
def typingLetsCard : Claim7 := { stood := { row := typingLetsRow, standIns := [], harness := (true, "8653fc28647d1407612e5a36e33935befa6e181d86bf76bed0999b2d710ee696"), looks := false }, kinds := [], alts := [], laidByText := true, laidKinds := [.data, .data, .data], laidTests := true, laidLooks := .later }
def TypingLetsCardSaid : Prop := Claim7.holds Tryd.pinned (.plain (OpenSpec.ofChange typingLetsSpec)) typingLetsCard

/-- THE SECOND FORM's CARD OF 'pensionlaw7.TypingInputs'. -/
def typingInputsUptoCard : Claim7 := { stood := { row := typingInputsUptoRow, standIns := [], harness := (true, "8653fc28647d1407612e5a36e33935befa6e181d86bf76bed0999b2d710ee696"), looks := false }, kinds := [], alts := [], laidByText := true, laidKinds := [.data, .data, .data], laidTests := true, laidLooks := .later }
def TypingInputsUptoCardSaid : Prop := Claim7.holds Tryd.pinned (.plain (OpenSpec.upto typingInputsSpec)) typingInputsUptoCard

/-- THE SECOND FORM's CARD OF 'pensionlaw7.TypingInfers'. -/
def typingInfersUptoCard : Claim7 := { stood := { row := typingInfersUptoRow, standIns := [], harness := (true, "8653fc28647d1407612e5a36e33935befa6e181d86bf76bed0999b2d710ee696"), looks := false }, kinds := [], alts := [], laidByText := true, laidKinds := [.data, .data, .data], laidTests := true, laidLooks := .later }
def TypingInfersUptoCardSaid : Prop := Claim7.holds Tryd.pinned (.plain (OpenSpec.upto typingInfersSpec)) typingInfersUptoCard

/-- THE SECOND FORM's CARD OF 'pensionlaw7.TypingMade'. -/
def typingMadeUptoCard : Claim7 := { stood := { row := typingMadeUptoRow, standIns := [], harness := (true, "8653fc28647d1407612e5a36e33935befa6e181d86bf76bed0999b2d710ee696"), looks := false }, kinds := [], alts := [], laidByText := true, laidKinds := [.data, .data, .data], laidTests := true, laidLooks := .later }
def TypingMadeUptoCardSaid : Prop := Claim7.holds Tryd.pinned (.plain (OpenSpec.upto typingMadeSpec)) typingMadeUptoCard

/-- THE SECOND FORM's CARD OF 'pensionlaw7.TypingReplace'. -/
def typingReplaceUptoCard : Claim7 := { stood := { row := typingReplaceUptoRow, standIns := [], harness := (true, "8653fc28647d1407612e5a36e33935befa6e181d86bf76bed0999b2d710ee696"), looks := false }, kinds := [], alts := [], laidByText := true, laidKinds := [.data, .data, .data], laidTests := true, laidLooks := .later }
def TypingReplaceUptoCardSaid : Prop := Claim7.holds Tryd.pinned (.plain (OpenSpec.upto typingReplaceSpec)) typingReplaceUptoCard

/-- THE SECOND FORM's CARD OF 'pensionlaw7.TypingLets'. -/
def typingLetsUptoCard : Claim7 := { stood := { row := typingLetsUptoRow, standIns := [], harness := (true, "8653fc28647d1407612e5a36e33935befa6e181d86bf76bed0999b2d710ee696"), looks := false }, kinds := [], alts := [], laidByText := true, laidKinds := [.data, .data, .data], laidTests := true, laidLooks := .later }
def TypingLetsUptoCardSaid : Prop := Claim7.holds Tryd.pinned (.plain (OpenSpec.upto typingLetsSpec)) typingLetsUptoCard
end Rows
end Go.Proofs.YtnhmebhmlbofgaaDoor
