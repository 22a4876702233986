/-
  DERIVED. GIVEN WITH THE SEED: THE CARDS: each row of YtpnfdmajpkpjoaaDoorRows.lean that lists a variable, with what it lists TIED to the program's text (the seventh form; the later family's looks); each row that meets fmt, with fmt's text TOLD by the authors' own Lean function (tested against real Go, not proved from fmt's source: count such statements apart). THE CARD IS WHAT COUNTS. Prove the row's statement (the work); the ties are given (YtpnfdmajpkpjoaaDoorTie.lean); close each card by the builder's one call (the guide's Derived/Test/ToyasCard.lean, 'card_holds'). Laid BY PROGRAM, IN A SANDBOX (cutbox-door.mjs). By AI agents, Wed Nov 11 2026. No macro, syntax, notation, axiom, sorry.
-/
import Derived.Test.YtpnfdmajpkpjoaaDoorRows
import GoSem.ClaimSeven
namespace Go.Proofs.YtpnfdmajpkpjoaaDoor
namespace Rows

/-- THE TIED CARD OF 'flqlaw5.SyntaxParses'. -/
def syntaxParsesCard : Claim7 := { stood := { row := syntaxParsesRow, standIns := [], harness := (true, "50b1f8288823b774159e58f60717064c43db051d51d701edee3ded772bc200cc"), looks := false }, kinds := [], alts := [], laidByText := true, laidKinds := [.widerDeep], laidTests := true, laidLooks := .later }
def SyntaxParsesCardSaid : Prop := Claim7.holds Tryd.pinned (.plain (OpenSpec.ofChange syntaxParsesSpec)) syntaxParsesCard

/-- THE TIED CARD OF 'flqlaw5.SyntaxLimits'. -/
def syntaxLimitsCard : Claim7 := { stood := { row := syntaxLimitsRow, standIns := [], harness := (true, "50b1f8288823b774159e58f60717064c43db051d51d701edee3ded772bc200cc"), looks := false }, kinds := [], alts := [], laidByText := true, laidKinds := [.widerDeep], laidTests := true, laidLooks := .later }
def SyntaxLimitsCardSaid : Prop := Claim7.holds Tryd.pinned (.plain (OpenSpec.ofChange syntaxLimitsSpec)) syntaxLimitsCard

/-- THE TIED CARD OF 'flqlaw5.SyntaxSpoils'. -/
def syntaxSpoilsCard : Claim7 := { stood := { row := syntaxSpoilsRow, standIns := [], harness := (true, "50b1f8288823b774159e58f60717064c43db051d51d701edee3ded772bc200cc"), looks := false }, kinds := [], alts := [], laidByText := true, laidKinds := [.widerDeep], laidTests := true, laidLooks := .later }
def SyntaxSpoilsCardSaid : Prop := Claim7.holds Tryd.pinned (.plain (OpenSpec.ofChange syntaxSpoilsSpec)) syntaxSpoilsCard

/-- THE TIED CARD OF 'flqlaw5.SyntaxRoundTrip'. -/
def syntaxRoundTripCard : Claim7 := { stood := { row := syntaxRoundTripRow, standIns := [], harness := (true, "50b1f8288823b774159e58f60717064c43db051d51d701edee3ded772bc200cc"), looks := false }, kinds := [], alts := [], laidByText := true, laidKinds := [.widerDeep], laidTests := true, laidLooks := .later }
def SyntaxRoundTripCardSaid : Prop := Claim7.holds Tryd.pinned (.plain (OpenSpec.ofChange syntaxRoundTripSpec)) syntaxRoundTripCard

/-- THE SECOND FORM's CARD OF 'flqlaw5.SyntaxParses'. -/
def syntaxParsesUptoCard : Claim7 := { stood := { row := syntaxParsesUptoRow, standIns := [], harness := (true, "50b1f8288823b774159e58f60717064c43db051d51d701edee3ded772bc200cc"), looks := false }, kinds := [], alts := [], laidByText := true, laidKinds := [.widerDeep], laidTests := true, laidLooks := .later }
def SyntaxParsesUptoCardSaid : Prop := Claim7.holds Tryd.pinned (.plain (OpenSpec.upto syntaxParsesSpec)) syntaxParsesUptoCard

/-- THE SECOND FORM's CARD OF 'flqlaw5.SyntaxLimits'. -/
def syntaxLimitsUptoCard : Claim7 := { stood := { row := syntaxLimitsUptoRow, standIns := [], harness := (true, "50b1f8288823b774159e58f60717064c43db051d51d701edee3ded772bc200cc"), looks := false }, kinds := [], alts := [], laidByText := true, laidKinds := [.widerDeep], laidTests := true, laidLooks := .later }
def SyntaxLimitsUptoCardSaid : Prop := Claim7.holds Tryd.pinned (.plain (OpenSpec.upto syntaxLimitsSpec)) syntaxLimitsUptoCard

/-- THE SECOND FORM's CARD OF 'flqlaw5.SyntaxSpoils'. -/
def syntaxSpoilsUptoCard : Claim7 := { stood := { row := syntaxSpoilsUptoRow, standIns := [], harness := (true, "50b1f8288823b774159e58f60717064c43db051d51d701edee3ded772bc200cc"), looks := false }, kinds := [], alts := [], laidByText := true, laidKinds := [.widerDeep], laidTests := true, laidLooks := .later }
def SyntaxSpoilsUptoCardSaid : Prop := Claim7.holds Tryd.pinned (.plain (OpenSpec.upto syntaxSpoilsSpec)) syntaxSpoilsUptoCard

/-- THE SECOND FORM's CARD OF 'flqlaw5.SyntaxRoundTrip'. -/
def syntaxRoundTripUptoCard : Claim7 := { stood := { row := syntaxRoundTripUptoRow, standIns := [], harness := (true, "50b1f8288823b774159e58f60717064c43db051d51d701edee3ded772bc200cc"), looks := false }, kinds := [], alts := [], laidByText := true, laidKinds := [.widerDeep], laidTests := true, laidLooks := .later }
def SyntaxRoundTripUptoCardSaid : Prop := Claim7.holds Tryd.pinned (.plain (OpenSpec.upto syntaxRoundTripSpec)) syntaxRoundTripUptoCard
end Rows
end Go.Proofs.YtpnfdmajpkpjoaaDoor
