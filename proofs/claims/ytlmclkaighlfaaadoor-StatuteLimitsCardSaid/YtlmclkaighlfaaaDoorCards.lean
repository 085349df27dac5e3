/-
  DERIVED. GIVEN WITH THE SEED: THE CARDS: each row of YtlmclkaighlfaaaDoorRows.lean that lists a variable, with what it lists TIED to the program's text (the seventh form; the later family's looks); each row that meets fmt, with fmt's text TOLD by the authors' own Lean function (tested against real Go, not proved from fmt's source: count such statements apart). THE CARD IS WHAT COUNTS. Prove the row's statement (the work); the ties are given (YtlmclkaighlfaaaDoorTie.lean); close each card by the builder's one call (the guide's Derived/Test/ToyasCard.lean, 'card_holds'). Laid BY PROGRAM, IN A SANDBOX (cutbox-door.mjs). By AI agents, Wed Nov 11 2026. No macro, syntax, notation, axiom, sorry.
-/
import Derived.Test.YtlmclkaighlfaaaDoorRows
import GoSem.ClaimSeven
namespace Go.Proofs.YtlmclkaighlfaaaDoor
namespace Rows

/-- THE TIED CARD OF 'pensionlaw6.StatuteLimits'. -/
def statuteLimitsCard : Claim7 := { stood := { row := statuteLimitsRow, standIns := [], harness := (true, "e2abf272447321dbfc36666cb2ef123aad2961ed6761dbd3a823ff4767e594a7"), looks := false }, kinds := [], alts := [], laidByText := true, laidKinds := [.data, .data, .data], laidTests := true, laidLooks := .later }
def StatuteLimitsCardSaid : Prop := Claim7.holds Tryd.pinned (.plain (OpenSpec.ofChange statuteLimitsSpec)) statuteLimitsCard

/-- THE SECOND FORM's CARD OF 'pensionlaw6.StatuteLimits'. -/
def statuteLimitsUptoCard : Claim7 := { stood := { row := statuteLimitsUptoRow, standIns := [], harness := (true, "e2abf272447321dbfc36666cb2ef123aad2961ed6761dbd3a823ff4767e594a7"), looks := false }, kinds := [], alts := [], laidByText := true, laidKinds := [.data, .data, .data], laidTests := true, laidLooks := .later }
def StatuteLimitsUptoCardSaid : Prop := Claim7.holds Tryd.pinned (.plain (OpenSpec.upto statuteLimitsSpec)) statuteLimitsUptoCard
end Rows
end Go.Proofs.YtlmclkaighlfaaaDoor
