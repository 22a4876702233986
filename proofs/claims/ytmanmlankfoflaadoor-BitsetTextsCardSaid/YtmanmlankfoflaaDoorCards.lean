/-
  DERIVED. GIVEN WITH THE SEED: THE CARDS: each row of YtmanmlankfoflaaDoorRows.lean that lists a variable, with what it lists TIED to the program's text (the seventh form; the later family's looks); each row that meets fmt, with fmt's text TOLD by the authors' own Lean function (tested against real Go, not proved from fmt's source: count such statements apart). THE CARD IS WHAT COUNTS. Prove the row's statement (the work); the ties are given (YtmanmlankfoflaaDoorTie.lean); close each card by the builder's one call (the guide's Derived/Test/ToyasCard.lean, 'card_holds'). Laid BY PROGRAM, IN A SANDBOX (cutbox-door.mjs). By AI agents, Wed Nov 11 2026. No macro, syntax, notation, axiom, sorry.
-/
import Derived.Test.YtmanmlankfoflaaDoorRows
import GoSem.ClaimSeven
namespace Go.Proofs.YtmanmlankfoflaaDoor
namespace Rows

/-- THE TIED CARD OF 'flqlaw2.BitsetReads'. -/
def bitsetReadsCard : Claim7 := { stood := { row := bitsetReadsRow, standIns := [], harness := (true, "66d205c30a92cbe58d856191ad057cf5923546aae0cbfcb7fc5c59380512b1bb"), looks := true }, kinds := [], alts := [], laidByText := true, laidKinds := [.data, .data, .data], laidTests := true, laidLooks := .later }
def BitsetReadsCardSaid : Prop := Claim7.holds Tryd.pinned (.plain (OpenSpec.ofChange bitsetReadsSpec)) bitsetReadsCard

/-- THE TIED CARD OF 'flqlaw2.BitsetMakes'. -/
def bitsetMakesCard : Claim7 := { stood := { row := bitsetMakesRow, standIns := [], harness := (true, "66d205c30a92cbe58d856191ad057cf5923546aae0cbfcb7fc5c59380512b1bb"), looks := true }, kinds := [], alts := [], laidByText := true, laidKinds := [.data, .data, .data], laidTests := true, laidLooks := .later }
def BitsetMakesCardSaid : Prop := Claim7.holds Tryd.pinned (.plain (OpenSpec.ofChange bitsetMakesSpec)) bitsetMakesCard

/-- THE TIED CARD OF 'flqlaw2.BitsetCombines'. -/
def bitsetCombinesCard : Claim7 := { stood := { row := bitsetCombinesRow, standIns := [], harness := (true, "66d205c30a92cbe58d856191ad057cf5923546aae0cbfcb7fc5c59380512b1bb"), looks := true }, kinds := [], alts := [], laidByText := true, laidKinds := [.data, .data, .data], laidTests := true, laidLooks := .later }
def BitsetCombinesCardSaid : Prop := Claim7.holds Tryd.pinned (.plain (OpenSpec.ofChange bitsetCombinesSpec)) bitsetCombinesCard

/-- THE TIED CARD OF 'flqlaw2.BitsetChanges'. -/
def bitsetChangesCard : Claim7 := { stood := { row := bitsetChangesRow, standIns := [], harness := (true, "66d205c30a92cbe58d856191ad057cf5923546aae0cbfcb7fc5c59380512b1bb"), looks := true }, kinds := [], alts := [], laidByText := true, laidKinds := [.data, .data, .data], laidTests := true, laidLooks := .later }
def BitsetChangesCardSaid : Prop := Claim7.holds Tryd.pinned (.plain (OpenSpec.ofChange bitsetChangesSpec)) bitsetChangesCard

/-- THE TIED CARD OF 'flqlaw2.BitsetAlgebra'. -/
def bitsetAlgebraCard : Claim7 := { stood := { row := bitsetAlgebraRow, standIns := [], harness := (true, "66d205c30a92cbe58d856191ad057cf5923546aae0cbfcb7fc5c59380512b1bb"), looks := true }, kinds := [], alts := [], laidByText := true, laidKinds := [.data, .data, .data], laidTests := true, laidLooks := .later }
def BitsetAlgebraCardSaid : Prop := Claim7.holds Tryd.pinned (.plain (OpenSpec.ofChange bitsetAlgebraSpec)) bitsetAlgebraCard

/-- THE TIED CARD OF 'flqlaw2.BitsetTexts'. -/
def bitsetTextsCard : Claim7 := { stood := { row := bitsetTextsRow, standIns := [], harness := (true, "66d205c30a92cbe58d856191ad057cf5923546aae0cbfcb7fc5c59380512b1bb"), looks := true }, kinds := [], alts := [], laidByText := true, laidKinds := [.data, .data, .data, .data, .sentinel, .sentinel, .pinned], laidTests := true, laidLooks := .later }
def BitsetTextsCardSaid : Prop := Claim7.holds Tryd.pinned (.plain (OpenSpec.ofChange bitsetTextsSpec)) bitsetTextsCard

/-- THE SECOND FORM's CARD OF 'flqlaw2.BitsetReads'. -/
def bitsetReadsUptoCard : Claim7 := { stood := { row := bitsetReadsUptoRow, standIns := [], harness := (true, "66d205c30a92cbe58d856191ad057cf5923546aae0cbfcb7fc5c59380512b1bb"), looks := true }, kinds := [], alts := [], laidByText := true, laidKinds := [.data, .data, .data], laidTests := true, laidLooks := .later }
def BitsetReadsUptoCardSaid : Prop := Claim7.holds Tryd.pinned (.plain (OpenSpec.upto bitsetReadsSpec)) bitsetReadsUptoCard

/-- THE SECOND FORM's CARD OF 'flqlaw2.BitsetMakes'. -/
def bitsetMakesUptoCard : Claim7 := { stood := { row := bitsetMakesUptoRow, standIns := [], harness := (true, "66d205c30a92cbe58d856191ad057cf5923546aae0cbfcb7fc5c59380512b1bb"), looks := true }, kinds := [], alts := [], laidByText := true, laidKinds := [.data, .data, .data], laidTests := true, laidLooks := .later }
def BitsetMakesUptoCardSaid : Prop := Claim7.holds Tryd.pinned (.plain (OpenSpec.upto bitsetMakesSpec)) bitsetMakesUptoCard

/-- THE SECOND FORM's CARD OF 'flqlaw2.BitsetCombines'. -/
def bitsetCombinesUptoCard : Claim7 := { stood := { row := bitsetCombinesUptoRow, standIns := [], harness := (true, "66d205c30a92cbe58d856191ad057cf5923546aae0cbfcb7fc5c59380512b1bb"), looks := true }, kinds := [], alts := [], laidByText := true, laidKinds := [.data, .data, .data], laidTests := true, laidLooks := .later }
def BitsetCombinesUptoCardSaid : Prop := Claim7.holds Tryd.pinned (.plain (OpenSpec.upto bitsetCombinesSpec)) bitsetCombinesUptoCard

/-- THE SECOND FORM's CARD OF 'flqlaw2.BitsetChanges'. -/
def bitsetChangesUptoCard : Claim7 := { stood := { row := bitsetChangesUptoRow, standIns := [], harness := (true, "66d205c30a92cbe58d856191ad057cf5923546aae0cbfcb7fc5c59380512b1bb"), looks := true }, kinds := [], alts := [], laidByText := true, laidKinds := [.data, .data, .data], laidTests := true, laidLooks := .later }
def BitsetChangesUptoCardSaid : Prop := Claim7.holds Tryd.pinned (.plain (OpenSpec.upto bitsetChangesSpec)) bitsetChangesUptoCard

/-- THE SECOND FORM's CARD OF 'flqlaw2.BitsetAlgebra'. -/
def bitsetAlgebraUptoCard : Claim7 := { stood := { row := bitsetAlgebraUptoRow, standIns := [], harness := (true, "66d205c30a92cbe58d856191ad057cf5923546aae0cbfcb7fc5c59380512b1bb"), looks := true }, kinds := [], alts := [], laidByText := true, laidKinds := [.data, .data, .data], laidTests := true, laidLooks := .later }
def BitsetAlgebraUptoCardSaid : Prop := Claim7.holds Tryd.pinned (.plain (OpenSpec.upto bitsetAlgebraSpec)) bitsetAlgebraUptoCard

/-- THE SECOND FORM's CARD OF 'flqlaw2.BitsetTexts'. -/
def bitsetTextsUptoCard : Claim7 := { stood := { row := bitsetTextsUptoRow, standIns := [], harness := (true, "66d205c30a92cbe58d856191ad057cf5923546aae0cbfcb7fc5c59380512b1bb"), looks := true }, kinds := [], alts := [], laidByText := true, laidKinds := [.data, .data, .data, .data, .sentinel, .sentinel, .pinned], laidTests := true, laidLooks := .later }
def BitsetTextsUptoCardSaid : Prop := Claim7.holds Tryd.pinned (.plain (OpenSpec.upto bitsetTextsSpec)) bitsetTextsUptoCard
end Rows
end Go.Proofs.YtmanmlankfoflaaDoor
