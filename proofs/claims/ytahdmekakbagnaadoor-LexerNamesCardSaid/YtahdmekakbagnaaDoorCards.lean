/-
  DERIVED. GIVEN WITH THE SEED: THE CARDS: each row of YtahdmekakbagnaaDoorRows.lean that lists a variable, with what it lists TIED to the program's text (the seventh form; the later family's looks); each row that meets fmt, with fmt's text TOLD by the authors' own Lean function (tested against real Go, not proved from fmt's source: count such statements apart). THE CARD IS WHAT COUNTS. Prove the row's statement (the work); the ties are given (YtahdmekakbagnaaDoorTie.lean); close each card by the builder's one call (the guide's Derived/Test/ToyasCard.lean, 'card_holds'). Laid BY PROGRAM, IN A SANDBOX (cutbox-door.mjs). By AI agents, Wed Nov 11 2026. No macro, syntax, notation, axiom, sorry.
-/
import Derived.Test.YtahdmekakbagnaaDoorRows
import GoSem.ClaimSeven
namespace Go.Proofs.YtahdmekakbagnaaDoor
namespace Rows

/-- THE TIED CARD OF 'flqlaw4.LexerNames'. -/
def lexerNamesCard : Claim7 := { stood := { row := lexerNamesRow, standIns := [], harness := (true, "04631f5fb19f3e1daaaa1b9ab1e34ce35d5485ee5cc2ff40e5a338500c357148"), looks := false }, kinds := [], alts := [], laidByText := true, laidKinds := [.widerDeep], laidTests := true, laidLooks := .later }
def LexerNamesCardSaid : Prop := Claim7.holds Tryd.pinned (.plain (OpenSpec.ofChange lexerNamesSpec)) lexerNamesCard

/-- THE SECOND FORM's CARD OF 'flqlaw4.LexerNames'. -/
def lexerNamesUptoCard : Claim7 := { stood := { row := lexerNamesUptoRow, standIns := [], harness := (true, "04631f5fb19f3e1daaaa1b9ab1e34ce35d5485ee5cc2ff40e5a338500c357148"), looks := false }, kinds := [], alts := [], laidByText := true, laidKinds := [.widerDeep], laidTests := true, laidLooks := .later }
def LexerNamesUptoCardSaid : Prop := Claim7.holds Tryd.pinned (.plain (OpenSpec.upto lexerNamesSpec)) lexerNamesUptoCard
end Rows
end Go.Proofs.YtahdmekakbagnaaDoor
