/-
  DERIVED. GIVEN WITH THE SEED: THE CARDS: each row of YtijekimobahgpaaGreatDoorRows.lean that lists a variable, with what it lists TIED to the program's text (the seventh form; the later family's looks); each row that meets fmt, with fmt's text TOLD by the authors' own Lean function (tested against real Go, not proved from fmt's source: count such statements apart). THE CARD IS WHAT COUNTS. Prove the row's statement (the work); the ties are given (YtijekimobahgpaaGreatDoorTie.lean); close each card by the builder's one call (the guide's Derived/Test/ToyasCard.lean, 'card_holds'). Laid BY PROGRAM, IN A SANDBOX (cutbox-door.mjs). By AI agents, Wed Nov 11 2026. No macro, syntax, notation, axiom, sorry.
-/
import Derived.Test.YtijekimobahgpaaGreatDoorRows
import GoSem.ClaimSeven
namespace Go.Proofs.YtijekimobahgpaaGreatDoor
namespace Rows

/-- THE TIED CARD OF 'flqlaw10.EquationsOf'. -/
def equationsOfCard : Claim7 := { stood := { row := equationsOfRow, standIns := [], harness := (true, "ca4bbe23f7a0993b17686ebc3d32c63815137ce12df4e47caf1a1dd1fada3d65"), looks := false }, kinds := [], alts := [], laidByText := true, laidKinds := [.data, .widerDeep, .data], laidTests := true, laidLooks := .later }
def EquationsOfCardSaid : Prop := Claim7.holds Tryz.pinned (.plain (OpenSpec.ofChange equationsOfSpec)) equationsOfCard

/-- THE TIED CARD OF 'flqlaw10.EquationsValid'. -/
def equationsValidCard : Claim7 := { stood := { row := equationsValidRow, standIns := [], harness := (true, "ca4bbe23f7a0993b17686ebc3d32c63815137ce12df4e47caf1a1dd1fada3d65"), looks := false }, kinds := [], alts := [], laidByText := true, laidKinds := [.data, .widerDeep, .data], laidTests := true, laidLooks := .later }
def EquationsValidCardSaid : Prop := Claim7.holds Tryz.pinned (.plain (OpenSpec.ofChange equationsValidSpec)) equationsValidCard

/-- THE TIED CARD OF 'flqlaw10.EquationsWebs'. -/
def equationsWebsCard : Claim7 := { stood := { row := equationsWebsRow, standIns := [], harness := (true, "ca4bbe23f7a0993b17686ebc3d32c63815137ce12df4e47caf1a1dd1fada3d65"), looks := false }, kinds := [], alts := [], laidByText := true, laidKinds := [.data, .widerDeep, .data], laidTests := true, laidLooks := .later }
def EquationsWebsCardSaid : Prop := Claim7.holds Tryz.pinned (.plain (OpenSpec.ofChange equationsWebsSpec)) equationsWebsCard

/-- THE TIED CARD OF 'flqlaw10.EquationsRight'. -/
def equationsRightCard : Claim7 := { stood := { row := equationsRightRow, standIns := [], harness := (true, "ca4bbe23f7a0993b17686ebc3d32c63815137ce12df4e47caf1a1dd1fada3d65"), looks := false }, kinds := [], alts := [], laidByText := true, laidKinds := [.data, .widerDeep, .data], laidTests := true, laidLooks := .later }
def EquationsRightCardSaid : Prop := Claim7.holds Tryz.pinned (.plain (OpenSpec.ofChange equationsRightSpec)) equationsRightCard

/-- THE TIED CARD OF 'flqlaw10.EquationsMonotonic'. -/
def equationsMonotonicCard : Claim7 := { stood := { row := equationsMonotonicRow, standIns := [], harness := (true, "ca4bbe23f7a0993b17686ebc3d32c63815137ce12df4e47caf1a1dd1fada3d65"), looks := false }, kinds := [], alts := [], laidByText := true, laidKinds := [.data, .widerDeep, .data], laidTests := true, laidLooks := .later }
def EquationsMonotonicCardSaid : Prop := Claim7.holds Tryz.pinned (.plain (OpenSpec.ofChange equationsMonotonicSpec)) equationsMonotonicCard

/-- THE SECOND FORM's CARD OF 'flqlaw10.EquationsOf'. -/
def equationsOfUptoCard : Claim7 := { stood := { row := equationsOfUptoRow, standIns := [], harness := (true, "ca4bbe23f7a0993b17686ebc3d32c63815137ce12df4e47caf1a1dd1fada3d65"), looks := false }, kinds := [], alts := [], laidByText := true, laidKinds := [.data, .widerDeep, .data], laidTests := true, laidLooks := .later }
def EquationsOfUptoCardSaid : Prop := Claim7.holds Tryz.pinned (.plain (OpenSpec.upto equationsOfSpec)) equationsOfUptoCard

/-- THE SECOND FORM's CARD OF 'flqlaw10.EquationsValid'. -/
def equationsValidUptoCard : Claim7 := { stood := { row := equationsValidUptoRow, standIns := [], harness := (true, "ca4bbe23f7a0993b17686ebc3d32c63815137ce12df4e47caf1a1dd1fada3d65"), looks := false }, kinds := [], alts := [], laidByText := true, laidKinds := [.data, .widerDeep, .data], laidTests := true, laidLooks := .later }
def EquationsValidUptoCardSaid : Prop := Claim7.holds Tryz.pinned (.plain (OpenSpec.upto equationsValidSpec)) equationsValidUptoCard

/-- THE SECOND FORM's CARD OF 'flqlaw10.EquationsWebs'. -/
def equationsWebsUptoCard : Claim7 := { stood := { row := equationsWebsUptoRow, standIns := [], harness := (true, "ca4bbe23f7a0993b17686ebc3d32c63815137ce12df4e47caf1a1dd1fada3d65"), looks := false }, kinds := [], alts := [], laidByText := true, laidKinds := [.data, .widerDeep, .data], laidTests := true, laidLooks := .later }
def EquationsWebsUptoCardSaid : Prop := Claim7.holds Tryz.pinned (.plain (OpenSpec.upto equationsWebsSpec)) equationsWebsUptoCard

/-- THE SECOND FORM's CARD OF 'flqlaw10.EquationsRight'. -/
def equationsRightUptoCard : Claim7 := { stood := { row := equationsRightUptoRow, standIns := [], harness := (true, "ca4bbe23f7a0993b17686ebc3d32c63815137ce12df4e47caf1a1dd1fada3d65"), looks := false }, kinds := [], alts := [], laidByText := true, laidKinds := [.data, .widerDeep, .data], laidTests := true, laidLooks := .later }
def EquationsRightUptoCardSaid : Prop := Claim7.holds Tryz.pinned (.plain (OpenSpec.upto equationsRightSpec)) equationsRightUptoCard

/-- THE SECOND FORM's CARD OF 'flqlaw10.EquationsMonotonic'. -/
def equationsMonotonicUptoCard : Claim7 := { stood := { row := equationsMonotonicUptoRow, standIns := [], harness := (true, "ca4bbe23f7a0993b17686ebc3d32c63815137ce12df4e47caf1a1dd1fada3d65"), looks := false }, kinds := [], alts := [], laidByText := true, laidKinds := [.data, .widerDeep, .data], laidTests := true, laidLooks := .later }
def EquationsMonotonicUptoCardSaid : Prop := Claim7.holds Tryz.pinned (.plain (OpenSpec.upto equationsMonotonicSpec)) equationsMonotonicUptoCard
end Rows
end Go.Proofs.YtijekimobahgpaaGreatDoor
