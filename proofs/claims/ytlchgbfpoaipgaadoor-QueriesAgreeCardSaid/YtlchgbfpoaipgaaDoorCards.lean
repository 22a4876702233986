/-
  DERIVED. GIVEN WITH THE SEED: THE CARDS: each row of YtlchgbfpoaipgaaDoorRows.lean that lists a variable, with what it lists TIED to the program's text (the seventh form; the later family's looks); each row that meets fmt, with fmt's text TOLD by the authors' own Lean function (tested against real Go, not proved from fmt's source: count such statements apart). THE CARD IS WHAT COUNTS. Prove the row's statement (the work); the ties are given (YtlchgbfpoaipgaaDoorTie.lean); close each card by the builder's one call (the guide's Derived/Test/ToyasCard.lean, 'card_holds'). Laid BY PROGRAM, IN A SANDBOX (cutbox-door.mjs). By AI agents, Wed Nov 11 2026. No macro, syntax, notation, axiom, sorry.
-/
import Derived.Test.YtlchgbfpoaipgaaDoorRows
import GoSem.ClaimSeven
namespace Go.Proofs.YtlchgbfpoaipgaaDoor
namespace Rows

/-- THE TIED CARD OF 'flqlaw24.QueriesHistory'. -/
def queriesHistoryCard : Claim7 := { stood := { row := queriesHistoryRow, standIns := [], harness := (true, "a8213d513d96ed230573f86e073a5b4b08896490f16a57555d8bbf4c96577059"), looks := false }, kinds := [], alts := [], laidByText := true, laidKinds := [.widerDeep], laidTests := true, laidLooks := .later }
def QueriesHistoryCardSaid : Prop := Claim7.holds Tryd.pinned (.plain (OpenSpec.ofChange queriesHistorySpec)) queriesHistoryCard

/-- THE TIED CARD OF 'flqlaw24.QueriesAgree'. -/
def queriesAgreeCard : Claim7 := { stood := { row := queriesAgreeRow, standIns := [], harness := (true, "a8213d513d96ed230573f86e073a5b4b08896490f16a57555d8bbf4c96577059"), looks := false }, kinds := [], alts := [], laidByText := true, laidKinds := [.widerDeep], laidTests := true, laidLooks := .later }
def QueriesAgreeCardSaid : Prop := Claim7.holds Tryd.pinned (.plain (OpenSpec.ofChange queriesAgreeSpec)) queriesAgreeCard

/-- THE TIED CARD OF 'flqlaw24.QueriesFinal'. -/
def queriesFinalCard : Claim7 := { stood := { row := queriesFinalRow, standIns := [], harness := (true, "a8213d513d96ed230573f86e073a5b4b08896490f16a57555d8bbf4c96577059"), looks := false }, kinds := [], alts := [], laidByText := true, laidKinds := [.widerDeep], laidTests := true, laidLooks := .later }
def QueriesFinalCardSaid : Prop := Claim7.holds Tryd.pinned (.plain (OpenSpec.ofChange queriesFinalSpec)) queriesFinalCard

/-- THE TIED CARD OF 'flqlaw24.QueriesUnload'. -/
def queriesUnloadCard : Claim7 := { stood := { row := queriesUnloadRow, standIns := [], harness := (true, "a8213d513d96ed230573f86e073a5b4b08896490f16a57555d8bbf4c96577059"), looks := false }, kinds := [], alts := [], laidByText := true, laidKinds := [.widerDeep], laidTests := true, laidLooks := .later }
def QueriesUnloadCardSaid : Prop := Claim7.holds Tryd.pinned (.plain (OpenSpec.ofChange queriesUnloadSpec)) queriesUnloadCard

/-- THE SECOND FORM's CARD OF 'flqlaw24.QueriesHistory'. -/
def queriesHistoryUptoCard : Claim7 := { stood := { row := queriesHistoryUptoRow, standIns := [], harness := (true, "a8213d513d96ed230573f86e073a5b4b08896490f16a57555d8bbf4c96577059"), looks := false }, kinds := [], alts := [], laidByText := true, laidKinds := [.widerDeep], laidTests := true, laidLooks := .later }
def QueriesHistoryUptoCardSaid : Prop := Claim7.holds Tryd.pinned (.plain (OpenSpec.upto queriesHistorySpec)) queriesHistoryUptoCard

/-- THE SECOND FORM's CARD OF 'flqlaw24.QueriesAgree'. -/
def queriesAgreeUptoCard : Claim7 := { stood := { row := queriesAgreeUptoRow, standIns := [], harness := (true, "a8213d513d96ed230573f86e073a5b4b08896490f16a57555d8bbf4c96577059"), looks := false }, kinds := [], alts := [], laidByText := true, laidKinds := [.widerDeep], laidTests := true, laidLooks := .later }
def QueriesAgreeUptoCardSaid : Prop := Claim7.holds Tryd.pinned (.plain (OpenSpec.upto queriesAgreeSpec)) queriesAgreeUptoCard

/-- THE SECOND FORM's CARD OF 'flqlaw24.QueriesFinal'. -/
def queriesFinalUptoCard : Claim7 := { stood := { row := queriesFinalUptoRow, standIns := [], harness := (true, "a8213d513d96ed230573f86e073a5b4b08896490f16a57555d8bbf4c96577059"), looks := false }, kinds := [], alts := [], laidByText := true, laidKinds := [.widerDeep], laidTests := true, laidLooks := .later }
def QueriesFinalUptoCardSaid : Prop := Claim7.holds Tryd.pinned (.plain (OpenSpec.upto queriesFinalSpec)) queriesFinalUptoCard

/-- THE SECOND FORM's CARD OF 'flqlaw24.QueriesUnload'. -/
def queriesUnloadUptoCard : Claim7 := { stood := { row := queriesUnloadUptoRow, standIns := [], harness := (true, "a8213d513d96ed230573f86e073a5b4b08896490f16a57555d8bbf4c96577059"), looks := false }, kinds := [], alts := [], laidByText := true, laidKinds := [.widerDeep], laidTests := true, laidLooks := .later }
def QueriesUnloadUptoCardSaid : Prop := Claim7.holds Tryd.pinned (.plain (OpenSpec.upto queriesUnloadSpec)) queriesUnloadUptoCard
end Rows
end Go.Proofs.YtlchgbfpoaipgaaDoor
